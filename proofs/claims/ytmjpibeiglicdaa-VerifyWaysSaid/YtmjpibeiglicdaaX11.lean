/- Functions of the program as plain Lean functions, and their contracts; written by a program out of the translation. -/
import Derived.Test.YtmjpibeiglicdaaX0
import Derived.Test.YtmjpibeiglicdaaX4
import Derived.Test.YtmjpibeiglicdaaX5
import Derived.Test.YtmjpibeiglicdaaX7
namespace Go.Proofs.Ytmjpibeiglicdaa.X
open Go.RowKit Go.Proofs.YtmjpibeiglicdaaW.PrintWords Go.Proofs.YtmjpibeiglicdaaW.PrintLast Go.Proofs.YtmjpibeiglicdaaW.PrintMore
attribute [local go_sem] max2_int min2_int max_two min_two max_three min_three max_four min_four   -- for this text's walks alone
set_option linter.unusedVariables false
set_option linter.unusedSimpArgs false

/-! ### tamislaw06_VerifyWays: function 7 -/
mutual
def tamislaw06_VerifyWays.j0 : Nat → List (S56) → List Bool → Bool → Option (Bool)
  | 0, _, _, _ => none
  | k + 1, x0, x1, x28 => if x28 = true then ((tamislaw06_awake.f).bind fun t258 => (some t258)) else (tamislaw06_VerifyWays.l0 k x0 x1 0 0 0)
def tamislaw06_VerifyWays.l0 : Nat → List (S56) → List Bool → Int → Int → Int → Option (Bool)
  | 0, _, _, _, _, _ => none
  | k + 1, x0, x1, x5, x6, x7 => if x5 < 0 then (tamislaw06_VerifyWays.j2 k x0 x1 x5 x6 x7 true) else (if x5 ≥ (x0.length : Int) then (tamislaw06_VerifyWays.j2 k x0 x1 x5 x6 x7 true) else (tamislaw06_VerifyWays.j2 k x0 x1 x5 x6 x7 (decide (x7 ≥ (x0.length : Int)))))
def tamislaw06_VerifyWays.j2 : Nat → List (S56) → List Bool → Int → Int → Int → Bool → Option (Bool)
  | 0, _, _, _, _, _, _ => none
  | k + 1, x0, x1, x5, x6, x7, x45 => if x45 = true then (some false) else (if 0 ≤ x5 then (if x5 < (x0.length : Int) then ((tamisref04_Kind.f k ((rd_T56 x0 x5).f0)).bind fun t261 => (if t261 = 13 then (tamislaw06_VerifyWays.j3 k x0 x1 x5 x6 x7 t261 true ((rd_T56 x0 x5).f0) ((rd_T56 x0 x5).f1) ((rd_T56 x0 x5).f2) ((rd_T56 x0 x5).f3)) else (tamislaw06_VerifyWays.j3 k x0 x1 x5 x6 x7 t261 (t261 == 14) ((rd_T56 x0 x5).f0) ((rd_T56 x0 x5).f1) ((rd_T56 x0 x5).f2) ((rd_T56 x0 x5).f3)))) else (none)) else (none))
def tamislaw06_VerifyWays.j3 : Nat → List (S56) → List Bool → Int → Int → Int → Int → Bool → Int → Int → Int → Int → Option (Bool)
  | 0, _, _, _, _, _, _, _, _, _, _, _ => none
  | k + 1, x0, x1, x5, x6, x7, x9, x58, x261000, x261001, x261002, x261003 => if x58 = true then (some true) else (if x9 = 4 then (if 0 ≤ x261003 then (tamislaw06_VerifyWays.j4 k x0 x1 x5 x6 x7 x9 ((Go.bits .and .i64 (shr .i64 x6 x261003) 1) == 0) x261000 x261001 x261002 x261003) else (none)) else (if x9 = 6 then (if 0 ≤ x261003 then (tamislaw06_VerifyWays.j4 k x0 x1 x5 x6 x7 x9 ((Go.bits .and .i64 (shr .i64 x6 x261003) 1) == 0) x261000 x261001 x261002 x261003) else (none)) else (tamislaw06_VerifyWays.j4 k x0 x1 x5 x6 x7 x9 false x261000 x261001 x261002 x261003)))
def tamislaw06_VerifyWays.j4 : Nat → List (S56) → List Bool → Int → Int → Int → Int → Bool → Int → Int → Int → Int → Option (Bool)
  | 0, _, _, _, _, _, _, _, _, _, _, _ => none
  | k + 1, x0, x1, x5, x6, x7, x9, x72, x261000, x261001, x261002, x261003 => if x72 = true then (some false) else (if x9 = 8 then (tamislaw06_VerifyWays.j5 k x0 x1 x5 x6 x7 true x261000 x261001 x261002 x261003) else (tamislaw06_VerifyWays.j5 k x0 x1 x5 x6 x7 (x9 == 9) x261000 x261001 x261002 x261003))
def tamislaw06_VerifyWays.j5 : Nat → List (S56) → List Bool → Int → Int → Int → Bool → Int → Int → Int → Int → Option (Bool)
  | 0, _, _, _, _, _, _, _, _, _, _ => none
  | k + 1, x0, x1, x5, x6, x7, x78, x261000, x261001, x261002, x261003 => if x78 = true then (if 0 ≤ x261003 then (tamislaw06_VerifyWays.j6 k x0 x1 x5 (Go.bits .or .i64 x6 (shl .i64 1 x261003)) x7) else (none)) else (tamislaw06_VerifyWays.j6 k x0 x1 x5 x6 x7)
def tamislaw06_VerifyWays.j6 : Nat → List (S56) → List Bool → Int → Int → Int → Option (Bool)
  | 0, _, _, _, _, _ => none
  | k + 1, x0, x1, x5, x6, x7 => (tamisref06_Next.f k x0 x5).bind fun t262 => (if x7 < (x1.length : Int) then (if 0 ≤ x7 then (tamislaw06_VerifyWays.j7 k x0 x1 x5 x6 x7 t262 0 (rdOf false x1 x7)) else (none)) else (tamislaw06_VerifyWays.j7 k x0 x1 x5 x6 x7 t262 0 false))
def tamislaw06_VerifyWays.j7 : Nat → List (S56) → List Bool → Int → Int → Int → List Int → Int → Bool → Option (Bool)
  | 0, _, _, _, _, _, _, _, _ => none
  | k + 1, x0, x1, x5, x6, x7, x10, x11, x96 => if x96 = true then (if 0 ≤ (wrap64 ((x10.length : Int) - 1)) then (if (wrap64 ((x10.length : Int) - 1)) < (x10.length : Int) then (if (rd x10 (wrap64 ((x10.length : Int) - 1))) ≤ x5 then (some false) else (tamislaw06_VerifyWays.l0 k x0 x1 (rd x10 (wrap64 ((x10.length : Int) - 1))) x6 (wrap64 (x7 + 1)))) else (none)) else (none)) else (if 0 ≤ x11 then (if x11 < (x10.length : Int) then (if (rd x10 x11) ≤ x5 then (some false) else (tamislaw06_VerifyWays.l0 k x0 x1 (rd x10 x11) x6 (wrap64 (x7 + 1)))) else (none)) else (none))
end
def tamislaw06_VerifyWays.f (k : Nat) (l0 : List (S56)) (l1 : List Bool) : Option (Bool) := (tamislaw06_awake.f).bind fun t256 => (if t256 = true then (if (l0.length : Int) > 300 then (tamislaw06_VerifyWays.j0 k l0 l1 true) else (if (l1.length : Int) > 300 then (tamislaw06_VerifyWays.j0 k l0 l1 true) else ((verify_Right.f k l0).bind fun t257 => (tamislaw06_VerifyWays.j0 k l0 l1 (!t257))))) else (tamislaw06_VerifyWays.j0 k l0 l1 true))
theorem tamislaw06_VerifyWays.mono_l : ∀ k, (∀ y0 y1 y2, LeO (tamislaw06_VerifyWays.j0 k y0 y1 y2) (tamislaw06_VerifyWays.j0 (k + 1) y0 y1 y2)) ∧ (∀ y0 y1 y2 y3 y4, LeO (tamislaw06_VerifyWays.l0 k y0 y1 y2 y3 y4) (tamislaw06_VerifyWays.l0 (k + 1) y0 y1 y2 y3 y4)) ∧ (∀ y0 y1 y2 y3 y4 y5, LeO (tamislaw06_VerifyWays.j2 k y0 y1 y2 y3 y4 y5) (tamislaw06_VerifyWays.j2 (k + 1) y0 y1 y2 y3 y4 y5)) ∧ (∀ y0 y1 y2 y3 y4 y5 y6 y7 y8 y9 y10, LeO (tamislaw06_VerifyWays.j3 k y0 y1 y2 y3 y4 y5 y6 y7 y8 y9 y10) (tamislaw06_VerifyWays.j3 (k + 1) y0 y1 y2 y3 y4 y5 y6 y7 y8 y9 y10)) ∧ (∀ y0 y1 y2 y3 y4 y5 y6 y7 y8 y9 y10, LeO (tamislaw06_VerifyWays.j4 k y0 y1 y2 y3 y4 y5 y6 y7 y8 y9 y10) (tamislaw06_VerifyWays.j4 (k + 1) y0 y1 y2 y3 y4 y5 y6 y7 y8 y9 y10)) ∧ (∀ y0 y1 y2 y3 y4 y5 y6 y7 y8 y9, LeO (tamislaw06_VerifyWays.j5 k y0 y1 y2 y3 y4 y5 y6 y7 y8 y9) (tamislaw06_VerifyWays.j5 (k + 1) y0 y1 y2 y3 y4 y5 y6 y7 y8 y9)) ∧ (∀ y0 y1 y2 y3 y4, LeO (tamislaw06_VerifyWays.j6 k y0 y1 y2 y3 y4) (tamislaw06_VerifyWays.j6 (k + 1) y0 y1 y2 y3 y4)) ∧ (∀ y0 y1 y2 y3 y4 y5 y6 y7, LeO (tamislaw06_VerifyWays.j7 k y0 y1 y2 y3 y4 y5 y6 y7) (tamislaw06_VerifyWays.j7 (k + 1) y0 y1 y2 y3 y4 y5 y6 y7))
  | 0 => ⟨fun _ _ _ r h => by simp [tamislaw06_VerifyWays.j0] at h, fun _ _ _ _ _ r h => by simp [tamislaw06_VerifyWays.l0] at h, fun _ _ _ _ _ _ r h => by simp [tamislaw06_VerifyWays.j2] at h, fun _ _ _ _ _ _ _ _ _ _ _ r h => by simp [tamislaw06_VerifyWays.j3] at h, fun _ _ _ _ _ _ _ _ _ _ _ r h => by simp [tamislaw06_VerifyWays.j4] at h, fun _ _ _ _ _ _ _ _ _ _ r h => by simp [tamislaw06_VerifyWays.j5] at h, fun _ _ _ _ _ r h => by simp [tamislaw06_VerifyWays.j6] at h, fun _ _ _ _ _ _ _ _ r h => by simp [tamislaw06_VerifyWays.j7] at h⟩
  | k + 1 => by
    obtain ⟨ih0, ih1, ih2, ih3, ih4, ih5, ih6, ih7⟩ := tamislaw06_VerifyWays.mono_l k
    refine ⟨?_, ?_, ?_, ?_, ?_, ?_, ?_, ?_⟩
    · intro y0 y1 y2
      unfold tamislaw06_VerifyWays.j0
      repeat' first
      | (with_reducible exact ih0 _ _ _)
      | (with_reducible exact ih1 _ _ _ _ _)
      | (with_reducible exact ih2 _ _ _ _ _ _)
      | (with_reducible exact ih3 _ _ _ _ _ _ _ _ _ _ _)
      | (with_reducible exact ih4 _ _ _ _ _ _ _ _ _ _ _)
      | (with_reducible exact ih5 _ _ _ _ _ _ _ _ _ _)
      | (with_reducible exact ih6 _ _ _ _ _)
      | (with_reducible exact ih7 _ _ _ _ _ _ _ _)
      | (with_reducible exact tamisref04_Kind.mono _ _)
      | (with_reducible exact tamisref06_Next.mono _ _ _)
      | (with_reducible exact verify_Right.mono _ _)
      | (with_reducible exact LeO.refl _)
      | (with_reducible exact LeO.none _)
      | (with_reducible refine LeO.ite ?_ ?_)
      | (with_reducible refine LeO.bind ?_ (fun _ => ?_))
      | exact ih0 _ _ _
      | exact ih1 _ _ _ _ _
      | exact ih2 _ _ _ _ _ _
      | exact ih3 _ _ _ _ _ _ _ _ _ _ _
      | exact ih4 _ _ _ _ _ _ _ _ _ _ _
      | exact ih5 _ _ _ _ _ _ _ _ _ _
      | exact ih6 _ _ _ _ _
      | exact ih7 _ _ _ _ _ _ _ _
      | exact tamisref04_Kind.mono _ _
      | exact tamisref06_Next.mono _ _ _
      | exact verify_Right.mono _ _
      | exact LeO.none _
      | refine LeO.ite ?_ ?_
      | refine LeO.bind ?_ (fun _ => ?_)
    · intro y0 y1 y2 y3 y4
      unfold tamislaw06_VerifyWays.l0
      repeat' first
      | (with_reducible exact ih0 _ _ _)
      | (with_reducible exact ih1 _ _ _ _ _)
      | (with_reducible exact ih2 _ _ _ _ _ _)
      | (with_reducible exact ih3 _ _ _ _ _ _ _ _ _ _ _)
      | (with_reducible exact ih4 _ _ _ _ _ _ _ _ _ _ _)
      | (with_reducible exact ih5 _ _ _ _ _ _ _ _ _ _)
      | (with_reducible exact ih6 _ _ _ _ _)
      | (with_reducible exact ih7 _ _ _ _ _ _ _ _)
      | (with_reducible exact tamisref04_Kind.mono _ _)
      | (with_reducible exact tamisref06_Next.mono _ _ _)
      | (with_reducible exact verify_Right.mono _ _)
      | (with_reducible exact LeO.refl _)
      | (with_reducible exact LeO.none _)
      | (with_reducible refine LeO.ite ?_ ?_)
      | (with_reducible refine LeO.bind ?_ (fun _ => ?_))
      | exact ih0 _ _ _
      | exact ih1 _ _ _ _ _
      | exact ih2 _ _ _ _ _ _
      | exact ih3 _ _ _ _ _ _ _ _ _ _ _
      | exact ih4 _ _ _ _ _ _ _ _ _ _ _
      | exact ih5 _ _ _ _ _ _ _ _ _ _
      | exact ih6 _ _ _ _ _
      | exact ih7 _ _ _ _ _ _ _ _
      | exact tamisref04_Kind.mono _ _
      | exact tamisref06_Next.mono _ _ _
      | exact verify_Right.mono _ _
      | exact LeO.none _
      | refine LeO.ite ?_ ?_
      | refine LeO.bind ?_ (fun _ => ?_)
    · intro y0 y1 y2 y3 y4 y5
      unfold tamislaw06_VerifyWays.j2
      repeat' first
      | (with_reducible exact ih0 _ _ _)
      | (with_reducible exact ih1 _ _ _ _ _)
      | (with_reducible exact ih2 _ _ _ _ _ _)
      | (with_reducible exact ih3 _ _ _ _ _ _ _ _ _ _ _)
      | (with_reducible exact ih4 _ _ _ _ _ _ _ _ _ _ _)
      | (with_reducible exact ih5 _ _ _ _ _ _ _ _ _ _)
      | (with_reducible exact ih6 _ _ _ _ _)
      | (with_reducible exact ih7 _ _ _ _ _ _ _ _)
      | (with_reducible exact tamisref04_Kind.mono _ _)
      | (with_reducible exact tamisref06_Next.mono _ _ _)
      | (with_reducible exact verify_Right.mono _ _)
      | (with_reducible exact LeO.refl _)
      | (with_reducible exact LeO.none _)
      | (with_reducible refine LeO.ite ?_ ?_)
      | (with_reducible refine LeO.bind ?_ (fun _ => ?_))
      | exact ih0 _ _ _
      | exact ih1 _ _ _ _ _
      | exact ih2 _ _ _ _ _ _
      | exact ih3 _ _ _ _ _ _ _ _ _ _ _
      | exact ih4 _ _ _ _ _ _ _ _ _ _ _
      | exact ih5 _ _ _ _ _ _ _ _ _ _
      | exact ih6 _ _ _ _ _
      | exact ih7 _ _ _ _ _ _ _ _
      | exact tamisref04_Kind.mono _ _
      | exact tamisref06_Next.mono _ _ _
      | exact verify_Right.mono _ _
      | exact LeO.none _
      | refine LeO.ite ?_ ?_
      | refine LeO.bind ?_ (fun _ => ?_)
    · intro y0 y1 y2 y3 y4 y5 y6 y7 y8 y9 y10
      unfold tamislaw06_VerifyWays.j3
      repeat' first
      | (with_reducible exact ih0 _ _ _)
      | (with_reducible exact ih1 _ _ _ _ _)
      | (with_reducible exact ih2 _ _ _ _ _ _)
      | (with_reducible exact ih3 _ _ _ _ _ _ _ _ _ _ _)
      | (with_reducible exact ih4 _ _ _ _ _ _ _ _ _ _ _)
      | (with_reducible exact ih5 _ _ _ _ _ _ _ _ _ _)
      | (with_reducible exact ih6 _ _ _ _ _)
      | (with_reducible exact ih7 _ _ _ _ _ _ _ _)
      | (with_reducible exact tamisref04_Kind.mono _ _)
      | (with_reducible exact tamisref06_Next.mono _ _ _)
      | (with_reducible exact verify_Right.mono _ _)
      | (with_reducible exact LeO.refl _)
      | (with_reducible exact LeO.none _)
      | (with_reducible refine LeO.ite ?_ ?_)
      | (with_reducible refine LeO.bind ?_ (fun _ => ?_))
      | exact ih0 _ _ _
      | exact ih1 _ _ _ _ _
      | exact ih2 _ _ _ _ _ _
      | exact ih3 _ _ _ _ _ _ _ _ _ _ _
      | exact ih4 _ _ _ _ _ _ _ _ _ _ _
      | exact ih5 _ _ _ _ _ _ _ _ _ _
      | exact ih6 _ _ _ _ _
      | exact ih7 _ _ _ _ _ _ _ _
      | exact tamisref04_Kind.mono _ _
      | exact tamisref06_Next.mono _ _ _
      | exact verify_Right.mono _ _
      | exact LeO.none _
      | refine LeO.ite ?_ ?_
      | refine LeO.bind ?_ (fun _ => ?_)
    · intro y0 y1 y2 y3 y4 y5 y6 y7 y8 y9 y10
      unfold tamislaw06_VerifyWays.j4
      repeat' first
      | (with_reducible exact ih0 _ _ _)
      | (with_reducible exact ih1 _ _ _ _ _)
      | (with_reducible exact ih2 _ _ _ _ _ _)
      | (with_reducible exact ih3 _ _ _ _ _ _ _ _ _ _ _)
      | (with_reducible exact ih4 _ _ _ _ _ _ _ _ _ _ _)
      | (with_reducible exact ih5 _ _ _ _ _ _ _ _ _ _)
      | (with_reducible exact ih6 _ _ _ _ _)
      | (with_reducible exact ih7 _ _ _ _ _ _ _ _)
      | (with_reducible exact tamisref04_Kind.mono _ _)
      | (with_reducible exact tamisref06_Next.mono _ _ _)
      | (with_reducible exact verify_Right.mono _ _)
      | (with_reducible exact LeO.refl _)
      | (with_reducible exact LeO.none _)
      | (with_reducible refine LeO.ite ?_ ?_)
      | (with_reducible refine LeO.bind ?_ (fun _ => ?_))
      | exact ih0 _ _ _
      | exact ih1 _ _ _ _ _
      | exact ih2 _ _ _ _ _ _
      | exact ih3 _ _ _ _ _ _ _ _ _ _ _
      | exact ih4 _ _ _ _ _ _ _ _ _ _ _
      | exact ih5 _ _ _ _ _ _ _ _ _ _
      | exact ih6 _ _ _ _ _
      | exact ih7 _ _ _ _ _ _ _ _
      | exact tamisref04_Kind.mono _ _
      | exact tamisref06_Next.mono _ _ _
      | exact verify_Right.mono _ _
      | exact LeO.none _
      | refine LeO.ite ?_ ?_
      | refine LeO.bind ?_ (fun _ => ?_)
    · intro y0 y1 y2 y3 y4 y5 y6 y7 y8 y9
      unfold tamislaw06_VerifyWays.j5
      repeat' first
      | (with_reducible exact ih0 _ _ _)
      | (with_reducible exact ih1 _ _ _ _ _)
      | (with_reducible exact ih2 _ _ _ _ _ _)
      | (with_reducible exact ih3 _ _ _ _ _ _ _ _ _ _ _)
      | (with_reducible exact ih4 _ _ _ _ _ _ _ _ _ _ _)
      | (with_reducible exact ih5 _ _ _ _ _ _ _ _ _ _)
      | (with_reducible exact ih6 _ _ _ _ _)
      | (with_reducible exact ih7 _ _ _ _ _ _ _ _)
      | (with_reducible exact tamisref04_Kind.mono _ _)
      | (with_reducible exact tamisref06_Next.mono _ _ _)
      | (with_reducible exact verify_Right.mono _ _)
      | (with_reducible exact LeO.refl _)
      | (with_reducible exact LeO.none _)
      | (with_reducible refine LeO.ite ?_ ?_)
      | (with_reducible refine LeO.bind ?_ (fun _ => ?_))
      | exact ih0 _ _ _
      | exact ih1 _ _ _ _ _
      | exact ih2 _ _ _ _ _ _
      | exact ih3 _ _ _ _ _ _ _ _ _ _ _
      | exact ih4 _ _ _ _ _ _ _ _ _ _ _
      | exact ih5 _ _ _ _ _ _ _ _ _ _
      | exact ih6 _ _ _ _ _
      | exact ih7 _ _ _ _ _ _ _ _
      | exact tamisref04_Kind.mono _ _
      | exact tamisref06_Next.mono _ _ _
      | exact verify_Right.mono _ _
      | exact LeO.none _
      | refine LeO.ite ?_ ?_
      | refine LeO.bind ?_ (fun _ => ?_)
    · intro y0 y1 y2 y3 y4
      unfold tamislaw06_VerifyWays.j6
      repeat' first
      | (with_reducible exact ih0 _ _ _)
      | (with_reducible exact ih1 _ _ _ _ _)
      | (with_reducible exact ih2 _ _ _ _ _ _)
      | (with_reducible exact ih3 _ _ _ _ _ _ _ _ _ _ _)
      | (with_reducible exact ih4 _ _ _ _ _ _ _ _ _ _ _)
      | (with_reducible exact ih5 _ _ _ _ _ _ _ _ _ _)
      | (with_reducible exact ih6 _ _ _ _ _)
      | (with_reducible exact ih7 _ _ _ _ _ _ _ _)
      | (with_reducible exact tamisref04_Kind.mono _ _)
      | (with_reducible exact tamisref06_Next.mono _ _ _)
      | (with_reducible exact verify_Right.mono _ _)
      | (with_reducible exact LeO.refl _)
      | (with_reducible exact LeO.none _)
      | (with_reducible refine LeO.ite ?_ ?_)
      | (with_reducible refine LeO.bind ?_ (fun _ => ?_))
      | exact ih0 _ _ _
      | exact ih1 _ _ _ _ _
      | exact ih2 _ _ _ _ _ _
      | exact ih3 _ _ _ _ _ _ _ _ _ _ _
      | exact ih4 _ _ _ _ _ _ _ _ _ _ _
      | exact ih5 _ _ _ _ _ _ _ _ _ _
      | exact ih6 _ _ _ _ _
      | exact ih7 _ _ _ _ _ _ _ _
      | exact tamisref04_Kind.mono _ _
      | exact tamisref06_Next.mono _ _ _
      | exact verify_Right.mono _ _
      | exact LeO.none _
      | refine LeO.ite ?_ ?_
      | refine LeO.bind ?_ (fun _ => ?_)
    · intro y0 y1 y2 y3 y4 y5 y6 y7
      unfold tamislaw06_VerifyWays.j7
      repeat' first
      | (with_reducible exact ih0 _ _ _)
      | (with_reducible exact ih1 _ _ _ _ _)
      | (with_reducible exact ih2 _ _ _ _ _ _)
      | (with_reducible exact ih3 _ _ _ _ _ _ _ _ _ _ _)
      | (with_reducible exact ih4 _ _ _ _ _ _ _ _ _ _ _)
      | (with_reducible exact ih5 _ _ _ _ _ _ _ _ _ _)
      | (with_reducible exact ih6 _ _ _ _ _)
      | (with_reducible exact ih7 _ _ _ _ _ _ _ _)
      | (with_reducible exact tamisref04_Kind.mono _ _)
      | (with_reducible exact tamisref06_Next.mono _ _ _)
      | (with_reducible exact verify_Right.mono _ _)
      | (with_reducible exact LeO.refl _)
      | (with_reducible exact LeO.none _)
      | (with_reducible refine LeO.ite ?_ ?_)
      | (with_reducible refine LeO.bind ?_ (fun _ => ?_))
      | exact ih0 _ _ _
      | exact ih1 _ _ _ _ _
      | exact ih2 _ _ _ _ _ _
      | exact ih3 _ _ _ _ _ _ _ _ _ _ _
      | exact ih4 _ _ _ _ _ _ _ _ _ _ _
      | exact ih5 _ _ _ _ _ _ _ _ _ _
      | exact ih6 _ _ _ _ _
      | exact ih7 _ _ _ _ _ _ _ _
      | exact tamisref04_Kind.mono _ _
      | exact tamisref06_Next.mono _ _ _
      | exact verify_Right.mono _ _
      | exact LeO.none _
      | refine LeO.ite ?_ ?_
      | refine LeO.bind ?_ (fun _ => ?_)
theorem tamislaw06_VerifyWays.mono : ∀ a0 a1 k, LeO (tamislaw06_VerifyWays.f k a0 a1) (tamislaw06_VerifyWays.f (k + 1) a0 a1) := by
  intro a0 a1 k
  obtain ⟨ih0, ih1, ih2, ih3, ih4, ih5, ih6, ih7⟩ := tamislaw06_VerifyWays.mono_l k
  unfold tamislaw06_VerifyWays.f
  repeat' first
      | (with_reducible exact ih0 _ _ _)
      | (with_reducible exact ih1 _ _ _ _ _)
      | (with_reducible exact ih2 _ _ _ _ _ _)
      | (with_reducible exact ih3 _ _ _ _ _ _ _ _ _ _ _)
      | (with_reducible exact ih4 _ _ _ _ _ _ _ _ _ _ _)
      | (with_reducible exact ih5 _ _ _ _ _ _ _ _ _ _)
      | (with_reducible exact ih6 _ _ _ _ _)
      | (with_reducible exact ih7 _ _ _ _ _ _ _ _)
      | (with_reducible exact tamisref04_Kind.mono _ _)
      | (with_reducible exact tamisref06_Next.mono _ _ _)
      | (with_reducible exact verify_Right.mono _ _)
      | (with_reducible exact LeO.refl _)
      | (with_reducible exact LeO.none _)
      | (with_reducible refine LeO.ite ?_ ?_)
      | (with_reducible refine LeO.bind ?_ (fun _ => ?_))
      | exact ih0 _ _ _
      | exact ih1 _ _ _ _ _
      | exact ih2 _ _ _ _ _ _
      | exact ih3 _ _ _ _ _ _ _ _ _ _ _
      | exact ih4 _ _ _ _ _ _ _ _ _ _ _
      | exact ih5 _ _ _ _ _ _ _ _ _ _
      | exact ih6 _ _ _ _ _
      | exact ih7 _ _ _ _ _ _ _ _
      | exact tamisref04_Kind.mono _ _
      | exact tamisref06_Next.mono _ _ _
      | exact verify_Right.mono _ _
      | exact LeO.none _
      | refine LeO.ite ?_ ?_
      | refine LeO.bind ?_ (fun _ => ?_)
set_option maxHeartbeats 8000000 in
set_option maxRecDepth 100000 in
theorem tamislaw06_VerifyWays.calls (k : Nat) (A0 : Option Addr) (c0 : Nat) (l0 : List (S56)) (A1 : Option Addr) (c1 : Nat) (l1 : List Bool) (r : Bool) (w : World) (hr0 : Kd.C k56 w A0 l0.length l0) (hc0 : l0.length ≤ c0) (hr1 : Kd.C Kd.bool w A1 l1.length l1) (hc1 : l1.length ≤ c1) (h : tamislaw06_VerifyWays.f k l0 l1 = some r) :
    Calls Try.prog 7 #[.slice A0 l0.length c0, .slice A1 l1.length c1] w fun e w' => e = .returned (.bool r) ∧ Below w.heap.size w w' := by
  have hu56 := Try.underlying56
  have HR0 := Aside0.mk hr0
  have HC0 := Aside0.mk hc0
  clear hr0 hc0
  have HR1 := Aside0.mk hr1
  have HC1 := Aside0.mk hc1
  clear hr1 hc1
  have HB := Aside0.mk (Below.refl w.heap.size w)
  have H : ((tamislaw06_awake.f).bind fun t256 => (if t256 = true then (if (l0.length : Int) > 300 then (tamislaw06_VerifyWays.j0 k l0 l1 true) else (if (l1.length : Int) > 300 then (tamislaw06_VerifyWays.j0 k l0 l1 true) else ((verify_Right.f k l0).bind fun t257 => (tamislaw06_VerifyWays.j0 k l0 l1 (!t257))))) else (tamislaw06_VerifyWays.j0 k l0 l1 true))) = some r := h
  clear h
  have HC3 := Aside0.mk H
  clear H
  go_enter Try.func7, Try.ntmps7
  go_upto_region 1 with (fail)
  go_cut [28] (fun v28 wc => ∃ (kq : Nat) (x28_2 : Bool), v28 = .bool x28_2 ∧ Aside0 (tamislaw06_VerifyWays.j0 kq l0 l1 x28_2 = some r) ∧ Aside0 (kq ≤ k) ∧ Aside0 (Below w.heap.size w wc))
  case first =>
    have H := HC3.out
    clear HC3
    replace H := Option.bind_eq_some_iff.mp H
    obtain ⟨t256, A40, H⟩ := H
    replace H : (if t256 = true then (if (l0.length : Int) > 300 then (tamislaw06_VerifyWays.j0 k l0 l1 true) else (if (l1.length : Int) > 300 then (tamislaw06_VerifyWays.j0 k l0 l1 true) else ((verify_Right.f k l0).bind fun t257 => (tamislaw06_VerifyWays.j0 k l0 l1 (!t257))))) else (tamislaw06_VerifyWays.j0 k l0 l1 true)) = some r := H
    have A4 := Aside0.mk A40
    clear A40
    by_cases c5 : t256 = true
    · subst c5
      have H1 : (if (l0.length : Int) > 300 then (tamislaw06_VerifyWays.j0 k l0 l1 true) else (if (l1.length : Int) > 300 then (tamislaw06_VerifyWays.j0 k l0 l1 true) else ((verify_Right.f k l0).bind fun t257 => (tamislaw06_VerifyWays.j0 k l0 l1 (!t257))))) = some r := by rw [if_pos rfl] at H; exact H
      clear H
      have H := H1
      clear H1
      by_cases c6 : (l0.length : Int) > 300
      · rw [if_pos c6] at H
        have c6b0 : decide (300 < (l0.length : Int)) = true := decide_eq_true c6
        have c6b1 : decide (300 < l0.length) = true := decide_eq_true (by omega)
        clear c6
        (first | rw [c6b0] | (simp only [i64_w, i32_w]; rw [c6b0]) | skip)
        have H' := Aside0.mk H
        clear H
        go_wp2_with (first | ((with_reducible refine gate_callee (f := 37) rfl ?_); refine goesL_ (some 12) rfl rfl Try.func37 (by kernel_rfl) rfl #[] rfl (by (try simp only [List.map_toArray, List.map_cons, List.map_nil]); first | done | rfl | (simp only [List.length_drop, List.length_take]; rfl)) ?_; (with_reducible refine (tamislaw06_awake.calls  true _ A4.out).mono ?_); rintro e w7 ⟨rfl, hb⟩; refine ⟨_, rfl, ?_⟩; have n0_ := Aside0.mk (below_step (by repeat (first | (with_reducible first | exact HB.out | apply below_alloc | apply pw_below_drewN | apply below_drew1) | exact HB.out)) hb); clear HB; have HB := n0_; clear n0_; (try clear hb); (try clear hb2); (try clear hk); (try clear hi)))
        go_meet
        case rel => exact ⟨_, (true), (by first | rfl | (simp; done) | (simp [*]; done)), H', ⟨by first | omega | exact Nat.le_refl _⟩, ⟨by repeat (first | (with_reducible first | exact HB.out | apply below_alloc | apply pw_below_drewN | apply below_drew1) | exact HB.out)⟩⟩
      · rw [if_neg c6] at H
        have c6b0 : decide (300 < (l0.length : Int)) = false := decide_eq_false c6
        have c6b1 : decide (300 < l0.length) = false := decide_eq_false (by omega)
        clear c6
        (first | rw [c6b0] | (simp only [i64_w, i32_w]; rw [c6b0]) | skip)
        by_cases c8 : (l1.length : Int) > 300
        · rw [if_pos c8] at H
          have c8b0 : decide (300 < (l1.length : Int)) = true := decide_eq_true c8
          have c8b1 : decide (300 < l1.length) = true := decide_eq_true (by omega)
          clear c8
          have H' := Aside0.mk H
          clear H
          go_wp2_with (first | ((with_reducible refine gate_callee (f := 37) rfl ?_); refine goesL_ (some 12) rfl rfl Try.func37 (by kernel_rfl) rfl #[] rfl (by (try simp only [List.map_toArray, List.map_cons, List.map_nil]); first | done | rfl | (simp only [List.length_drop, List.length_take]; rfl)) ?_; (with_reducible refine (tamislaw06_awake.calls  true _ A4.out).mono ?_); rintro e w9 ⟨rfl, hb⟩; refine ⟨_, rfl, ?_⟩; have n0_ := Aside0.mk (below_step (by repeat (first | (with_reducible first | exact HB.out | apply below_alloc | apply pw_below_drewN | apply below_drew1) | exact HB.out)) hb); clear HB; have HB := n0_; clear n0_; (try clear hb); (try clear hb2); (try clear hk); (try clear hi)))
          go_meet
          case rel => exact ⟨_, (true), (by first | rfl | (simp; done) | (simp [*]; done)), H', ⟨by first | omega | exact Nat.le_refl _⟩, ⟨by repeat (first | (with_reducible first | exact HB.out | apply below_alloc | apply pw_below_drewN | apply below_drew1) | exact HB.out)⟩⟩
        · rw [if_neg c8] at H
          have c8b0 : decide (300 < (l1.length : Int)) = false := decide_eq_false c8
          have c8b1 : decide (300 < l1.length) = false := decide_eq_false (by omega)
          clear c8
          replace H := Option.bind_eq_some_iff.mp H
          obtain ⟨t257, A100, H⟩ := H
          replace H : (tamislaw06_VerifyWays.j0 k l0 l1 (!t257)) = some r := H
          have A10 := Aside0.mk A100
          clear A100
          have H' := Aside0.mk H
          clear H
          go_wp2_with (first | ((with_reducible refine gate_callee (f := 37) rfl ?_); refine goesL_ (some 12) rfl rfl Try.func37 (by kernel_rfl) rfl #[] rfl (by (try simp only [List.map_toArray, List.map_cons, List.map_nil]); first | done | rfl | (simp only [List.length_drop, List.length_take]; rfl)) ?_; (with_reducible refine (tamislaw06_awake.calls  true _ A4.out).mono ?_); rintro e w11 ⟨rfl, hb⟩; refine ⟨_, rfl, ?_⟩; have n0_ := Aside0.mk (below_step (by repeat (first | (with_reducible first | exact HB.out | apply below_alloc | apply pw_below_drewN | apply below_drew1) | exact HB.out)) hb); clear HB; have HB := n0_; clear n0_; (try clear hb); (try clear hb2); (try clear hk); (try clear hi)) | (go_at_call 40; (with_reducible refine (verify_Right.calls k _ _ l0 t257 _ ?side1 ?side2 A10.out).mono ?_); (case side1 => repeat (first | exact (Kd.C_below HR0.out HB.out) | (with_reducible refine Kd.C_alloc ?_ _) | (with_reducible refine Kd.C_drewN ?_ _) | (with_reducible refine Kd.C_drew ?_))); (case side2 => exact HC0.out); rintro e w12 ⟨rfl, hb⟩; have n0_ := Aside0.mk (below_step (by repeat (first | (with_reducible first | exact HB.out | apply below_alloc | apply pw_below_drewN | apply below_drew1) | exact HB.out)) hb); clear HB; have HB := n0_; clear n0_; (try clear hb); (try clear hb2); (try clear hk); (try clear hi)))
          go_meet
          case rel => exact ⟨_, (!t257), (by first | rfl | (simp; done) | (simp [*]; done)), H', ⟨by first | omega | exact Nat.le_refl _⟩, ⟨by repeat (first | (with_reducible first | exact HB.out | apply below_alloc | apply pw_below_drewN | apply below_drew1) | exact HB.out)⟩⟩
    · replace c5 := Bool.eq_false_iff.mpr c5
      subst c5
      have H1 : (tamislaw06_VerifyWays.j0 k l0 l1 true) = some r := by rw [if_neg (show ¬ (false = true) by decide)] at H; exact H
      clear H
      have H := H1
      clear H1
      have H' := Aside0.mk H
      clear H
      go_wp2_with (first | ((with_reducible refine gate_callee (f := 37) rfl ?_); refine goesL_ (some 12) rfl rfl Try.func37 (by kernel_rfl) rfl #[] rfl (by (try simp only [List.map_toArray, List.map_cons, List.map_nil]); first | done | rfl | (simp only [List.length_drop, List.length_take]; rfl)) ?_; (with_reducible refine (tamislaw06_awake.calls  false _ A4.out).mono ?_); rintro e w13 ⟨rfl, hb⟩; refine ⟨_, rfl, ?_⟩; have n0_ := Aside0.mk (below_step (by repeat (first | (with_reducible first | exact HB.out | apply below_alloc | apply pw_below_drewN | apply below_drew1) | exact HB.out)) hb); clear HB; have HB := n0_; clear n0_; (try clear hb); (try clear hb2); (try clear hk); (try clear hi)))
      go_meet
      case rel => exact ⟨_, (true), (by first | rfl | (simp; done) | (simp [*]; done)), H', ⟨by first | omega | exact Nat.le_refl _⟩, ⟨by repeat (first | (with_reducible first | exact HB.out | apply below_alloc | apply pw_below_drewN | apply below_drew1) | exact HB.out)⟩⟩
  case rest =>
    clear HC3
    try clear c1
    try clear p2
    try clear c3
    try clear c5
    try clear c6
    try clear c6b0
    try clear c6b1
    try clear c7
    try clear c8
    try clear c8b0
    try clear c8b1
    obtain ⟨kq, x28_2, rfl, HA, HJ2, HB⟩ := hcut
    cases kq with
    | zero => exact absurd HA.out (by simp [tamislaw06_VerifyWays.j0])
    | succ kj2 =>
      have H := HA.out
      clear HA
      simp only [tamislaw06_VerifyWays.j0] at H
      by_cases c14 : x28_2 = true
      · subst c14
        have H1 : ((tamislaw06_awake.f).bind fun t258 => (some t258)) = some r := by rw [if_pos rfl] at H; exact H
        clear H
        have H := H1
        clear H1
        replace H := Option.bind_eq_some_iff.mp H
        obtain ⟨t258, A150, H⟩ := H
        replace H : (some t258) = some r := H
        have A15 := Aside0.mk A150
        clear A150
        obtain rfl := Option.some.inj H
        go_wp2_with (first | ((with_reducible refine gate_callee (f := 37) rfl ?_); refine goesL_ (some 29) rfl rfl Try.func37 (by kernel_rfl) rfl #[] rfl (by (try simp only [List.map_toArray, List.map_cons, List.map_nil]); first | done | rfl | (simp only [List.length_drop, List.length_take]; rfl)) ?_; (with_reducible refine (tamislaw06_awake.calls  t258 _ A15.out).mono ?_); rintro e w16 ⟨rfl, hb⟩; refine ⟨_, rfl, ?_⟩; have n0_ := Aside0.mk (below_step (by repeat (first | (with_reducible first | exact HB.out | apply below_alloc | apply pw_below_drewN | apply below_drew1) | exact HB.out)) hb); clear HB; have HB := n0_; clear n0_; (try clear hb); (try clear hb2); (try clear hk); (try clear hi)))
        go_ret
        exact ⟨by first | rfl | (simp [errW_none, errW_some] <;> rfl) | (simp [*, errW_none, errW_some] <;> rfl), by repeat (first | (with_reducible first | exact HB.out | apply below_alloc | apply pw_below_drewN | apply below_drew1) | exact HB.out)⟩
      · replace c14 := Bool.eq_false_iff.mpr c14
        subst c14
        have H1 : (tamislaw06_VerifyWays.l0 kj2 l0 l1 0 0 0) = some r := by rw [if_neg (show ¬ (false = true) by decide)] at H; exact H
        clear H
        have H := H1
        clear H1
        have H' := Aside0.mk H
        clear H
        go_wp2
        go_loopg [5, 6, 7] kj2 (fun kq v5 v6 v7 w' => ∃ (x5_2 : Int) (x6_2 : Int) (x7_2 : Int), v5 = .int .i64 x5_2 ∧ v6 = .int .i64 x6_2 ∧ v7 = .int .i64 x7_2 ∧ Aside0 (tamislaw06_VerifyWays.l0 kq l0 l1 x5_2 x6_2 x7_2 = some r) ∧ Aside0 (kq ≤ kj2) ∧ Aside0 (Below w.heap.size w w'))
        case atStart => exact ⟨(0), (0), (0), (by first | rfl | (simp; done) | (simp [*]; done)), (by first | rfl | (simp; done) | (simp [*]; done)), (by first | rfl | (simp; done) | (simp [*]; done)), H', ⟨Nat.le_refl _⟩, ⟨by repeat (first | (with_reducible first | exact HB.out | apply below_alloc | apply pw_below_drewN | apply below_drew1) | exact HB.out)⟩⟩
        case round =>
          clear H'
          try clear c1
          try clear p2
          try clear c3
          try clear c5
          try clear c6
          try clear c6b0
          try clear c6b1
          try clear c7
          try clear c8
          try clear c8b0
          try clear c8b1
          try clear c14
          try clear p2
          obtain ⟨x5_2, x6_2, x7_2, rfl, rfl, rfl, HA, HK2, HB⟩ := hrel
          cases gk with
          | zero => exact absurd HA.out (by simp [tamislaw06_VerifyWays.l0])
          | succ k2 =>
            have H := HA.out
            clear HA
            simp only [tamislaw06_VerifyWays.l0] at H
            have HC17 := Aside0.mk H
            clear H
            go_upto_region 6 with (fail)
            go_cut [45] (fun v45 wc => ∃ (kq : Nat) (x45_16 : Bool), v45 = .bool x45_16 ∧ Aside0 (tamislaw06_VerifyWays.j2 kq l0 l1 x5_2 x6_2 x7_2 x45_16 = some r) ∧ Aside0 (kq ≤ k2) ∧ Aside0 (Below w.heap.size w wc))
            case first =>
              have H := HC17.out
              clear HC17
              by_cases c18 : x5_2 < 0
              · rw [if_pos c18] at H
                have c18b0 : decide (x5_2 < 0) = true := decide_eq_true c18
                clear c18
                (first | rw [c18b0] | (simp only [i64_w, i32_w]; rw [c18b0]) | skip)
                have H' := Aside0.mk H
                clear H
                go_wp2
                go_meet
                case rel => exact ⟨_, (true), (by first | rfl | (simp; done) | (simp [*]; done)), H', ⟨by have := HJ2.out; have := HK2.out; first | omega | exact Nat.le_refl _⟩, ⟨by repeat (first | (with_reducible first | exact HB.out | apply below_alloc | apply pw_below_drewN | apply below_drew1) | exact HB.out)⟩⟩
              · rw [if_neg c18] at H
                have c18b0 : decide (x5_2 < 0) = false := decide_eq_false c18
                clear c18
                (first | rw [c18b0] | (simp only [i64_w, i32_w]; rw [c18b0]) | skip)
                by_cases c19 : x5_2 ≥ (l0.length : Int)
                · rw [if_pos c19] at H
                  have c19b0 : decide ((l0.length : Int) ≤ x5_2) = true := decide_eq_true c19
                  clear c19
                  have H' := Aside0.mk H
                  clear H
                  go_wp2
                  go_meet
                  case rel => exact ⟨_, (true), (by first | rfl | (simp; done) | (simp [*]; done)), H', ⟨by have := HJ2.out; have := HK2.out; first | omega | exact Nat.le_refl _⟩, ⟨by repeat (first | (with_reducible first | exact HB.out | apply below_alloc | apply pw_below_drewN | apply below_drew1) | exact HB.out)⟩⟩
                · rw [if_neg c19] at H
                  have c19b0 : decide ((l0.length : Int) ≤ x5_2) = false := decide_eq_false c19
                  clear c19
                  have H' := Aside0.mk H
                  clear H
                  go_wp2
                  go_meet
                  case rel => exact ⟨_, (decide (x7_2 ≥ (l0.length : Int))), (by first | rfl | (simp; done) | (simp [*]; done)), H', ⟨by have := HJ2.out; have := HK2.out; first | omega | exact Nat.le_refl _⟩, ⟨by repeat (first | (with_reducible first | exact HB.out | apply below_alloc | apply pw_below_drewN | apply below_drew1) | exact HB.out)⟩⟩
            case rest =>
              clear HC17
              try clear c1
              try clear p2
              try clear c3
              try clear c5
              try clear c6
              try clear c6b0
              try clear c6b1
              try clear c7
              try clear c8
              try clear c8b0
              try clear c8b1
              try clear c14
              try clear c18
              try clear c18b0
              try clear c19
              try clear c19b0
              try clear p2
              obtain ⟨kq, x45_16, rfl, HA, HJ16, HB⟩ := hcut
              cases kq with
              | zero => exact absurd HA.out (by simp [tamislaw06_VerifyWays.j2])
              | succ kj16 =>
                have H := HA.out
                clear HA
                simp only [tamislaw06_VerifyWays.j2] at H
                by_cases c20 : x45_16 = true
                · subst c20
                  have H1 : (some false) = some r := by rw [if_pos rfl] at H; exact H
                  clear H
                  have H := H1
                  clear H1
                  obtain rfl := Option.some.inj H
                  go_wp2
                  go_ret
                  exact ⟨by first | rfl | (simp [errW_none, errW_some] <;> rfl) | (simp [*, errW_none, errW_some] <;> rfl), by repeat (first | (with_reducible first | exact HB.out | apply below_alloc | apply pw_below_drewN | apply below_drew1) | exact HB.out)⟩
                · replace c20 := Bool.eq_false_iff.mpr c20
                  subst c20
                  have H1 : (if 0 ≤ x5_2 then (if x5_2 < (l0.length : Int) then ((tamisref04_Kind.f kj16 ((rd_T56 l0 x5_2).f0)).bind fun t261 => (if t261 = 13 then (tamislaw06_VerifyWays.j3 kj16 l0 l1 x5_2 x6_2 x7_2 t261 true ((rd_T56 l0 x5_2).f0) ((rd_T56 l0 x5_2).f1) ((rd_T56 l0 x5_2).f2) ((rd_T56 l0 x5_2).f3)) else (tamislaw06_VerifyWays.j3 kj16 l0 l1 x5_2 x6_2 x7_2 t261 (t261 == 14) ((rd_T56 l0 x5_2).f0) ((rd_T56 l0 x5_2).f1) ((rd_T56 l0 x5_2).f2) ((rd_T56 l0 x5_2).f3)))) else (none)) else (none)) = some r := by rw [if_neg (show ¬ (false = true) by decide)] at H; exact H
                  clear H
                  have H := H1
                  clear H1
                  by_cases c21 : 0 ≤ x5_2
                  · rw [if_pos c21] at H
                    have c21b0 : decide (0 ≤ x5_2) = true := decide_eq_true c21
                    clear c21
                    by_cases c22 : x5_2 < (l0.length : Int)
                    · rw [if_pos c22] at H
                      have c22b0 : decide (x5_2 < (l0.length : Int)) = true := decide_eq_true c22
                      clear c22
                      replace H := Option.bind_eq_some_iff.mp H
                      obtain ⟨t261, A230, H⟩ := H
                      replace H : (if t261 = 13 then (tamislaw06_VerifyWays.j3 kj16 l0 l1 x5_2 x6_2 x7_2 t261 true ((rd_T56 l0 x5_2).f0) ((rd_T56 l0 x5_2).f1) ((rd_T56 l0 x5_2).f2) ((rd_T56 l0 x5_2).f3)) else (tamislaw06_VerifyWays.j3 kj16 l0 l1 x5_2 x6_2 x7_2 t261 (t261 == 14) ((rd_T56 l0 x5_2).f0) ((rd_T56 l0 x5_2).f1) ((rd_T56 l0 x5_2).f2) ((rd_T56 l0 x5_2).f3))) = some r := H
                      have A23 := Aside0.mk A230
                      clear A230
                      have HC24 := Aside0.mk H
                      clear H
                      have p259 : 0 ≤ (x5_2 : Int) := of_decide_eq_true (by first | (with_reducible assumption) | assumption)
                      have q259 : x5_2 < (l0.length : Int) := of_decide_eq_true (by first | (with_reducible assumption) | assumption)
                      obtain ⟨ad259, e259, hx259_0, hx259_1, hx259_2, hx259_3⟩ := at_T56 HR0.out x5_2 p259 q259
                      cases e259
                      replace hx259_0 := (HB.out.cell (World.block_lt_of_cell? w _ hx259_0)).trans hx259_0
                      replace hx259_1 := (HB.out.cell (World.block_lt_of_cell? w _ hx259_1)).trans hx259_1
                      replace hx259_2 := (HB.out.cell (World.block_lt_of_cell? w _ hx259_2)).trans hx259_2
                      replace hx259_3 := (HB.out.cell (World.block_lt_of_cell? w _ hx259_3)).trans hx259_3
                      replace p259 := eq_true p259
                      replace q259 := eq_true q259
                      go_upto_region 10 with (first | ((with_reducible refine gate_dst (N := 8) rfl ?_); (try (refine gate_guard (by rfl) ?_; dsimp only)); refine box_event ?hg (N := 8) ?hd (cs := #[.int .u16 0, .int .u8 0, .int .u8 0, .int .u32 0]) (t := 56) ?hr ?_; (case hd => rfl); (case hg => rfl); (case hr => first | (go_simp; done) | (go_simp; rfl)); intro gb260 hg w25 hbox hb; have n0_ := Aside0.mk (below_step (by repeat (first | (with_reducible first | exact HB.out | apply below_alloc | apply pw_below_drewN | apply below_drew1) | exact HB.out)) hb); have n1_ := Aside0.mk (hbox); have n2_ := Aside0.mk ((by rw [hg]; exact (below_size (by repeat (first | (with_reducible first | exact HB.out | apply below_alloc | apply pw_below_drewN | apply below_drew1) | exact HB.out))) : w.heap.size ≤ gb260)); have n3_ := Aside0.mk ((by rw [hg]; exact (below_size (by repeat (first | (with_reducible first | exact HB.out | apply below_alloc | apply pw_below_drewN | apply below_drew1) | exact HB.out))) : w.heap.size ≤ gb260)); clear HB; have HB := n0_; have BK260 := n1_; have GW260 := n2_; have GE260 := n3_; clear n0_ n1_ n2_ n3_; clear hb hbox hg; have hcz26_0 : w25.cell? ⟨gb260, 0, none⟩ = some (.int .u16 0) := (blk_cell BK260.out 0).trans rfl; have hcz26_1 : w25.cell? ⟨gb260, 1, none⟩ = some (.int .u8 0) := (blk_cell BK260.out 1).trans rfl; have hcz26_2 : w25.cell? ⟨gb260, 2, none⟩ = some (.int .u8 0) := (blk_cell BK260.out 2).trans rfl; have hcz26_3 : w25.cell? ⟨gb260, 3, none⟩ = some (.int .u32 0) := (blk_cell BK260.out 3).trans rfl; have hfz26_0 := blk_frozen BK260.out 0; have hfz26_1 := blk_frozen BK260.out 1; have hfz26_2 := blk_frozen BK260.out 2; have hfz26_3 := blk_frozen BK260.out 3) | ((with_reducible refine gate_callee (f := 45) rfl ?_); refine goesL_ (some 52) rfl rfl Try.func45 (by kernel_rfl) rfl #[.int .u16 ((rd_T56 l0 x5_2).f0)] rfl (by (try simp only [List.map_toArray, List.map_cons, List.map_nil]); first | done | rfl | (simp only [List.length_drop, List.length_take]; rfl)) ?_; (with_reducible refine (tamisref04_Kind.calls kj16 ((rd_T56 l0 x5_2).f0) t261 _ A23.out).mono ?_); rintro e w27 ⟨rfl, hb⟩; refine ⟨_, rfl, ?_⟩; have n0_ := Aside0.mk (blk_below (g := gb260) (o := .cells #[.int .u16 ((rd_T56 l0 x5_2).f0), .int .u8 ((rd_T56 l0 x5_2).f1), .int .u8 ((rd_T56 l0 x5_2).f2), .int .u32 ((rd_T56 l0 x5_2).f3)] 56 (0, 0)) (by (with_reducible repeat (first | refine blk_drewN ?_ _ | refine blk_drew ?_ | refine blk_alloc ?_ _)); refine blk_put (cs := #[.int .u16 ((rd_T56 l0 x5_2).f0), .int .u8 ((rd_T56 l0 x5_2).f1), .int .u8 ((rd_T56 l0 x5_2).f2), .int .u32 0]) ?_ 3 _ rfl; (with_reducible repeat (first | refine blk_drewN ?_ _ | refine blk_drew ?_ | refine blk_alloc ?_ _)); refine blk_put (cs := #[.int .u16 ((rd_T56 l0 x5_2).f0), .int .u8 ((rd_T56 l0 x5_2).f1), .int .u8 0, .int .u32 0]) ?_ 2 _ rfl; (with_reducible repeat (first | refine blk_drewN ?_ _ | refine blk_drew ?_ | refine blk_alloc ?_ _)); refine blk_put (cs := #[.int .u16 ((rd_T56 l0 x5_2).f0), .int .u8 0, .int .u8 0, .int .u32 0]) ?_ 1 _ rfl; (with_reducible repeat (first | refine blk_drewN ?_ _ | refine blk_drew ?_ | refine blk_alloc ?_ _)); refine blk_put (cs := #[.int .u16 0, .int .u8 0, .int .u8 0, .int .u32 0]) ?_ 0 _ rfl; (with_reducible repeat (first | refine blk_drewN ?_ _ | refine blk_drew ?_ | refine blk_alloc ?_ _)); exact BK260.out) hb); have n1_ := Aside0.mk (below_step (by repeat (first | (with_reducible first | exact HB.out | apply below_alloc | apply pw_below_drewN | apply below_drew1 | refine below_set ?_ GE260.out) | exact HB.out)) hb); clear BK260; clear HB; have BK260 := n0_; have HB := n1_; clear n0_ n1_; (try clear hb); (try clear hb2); (try clear hk); (try clear hi)))
                      (try simp only [Act.put, List.setIfInBounds_toArray, List.set_cons_zero, List.set_cons_succ])
                      go_cut [58] (fun v58 wc => ∃ (kq : Nat) (x58_23 : Bool), v58 = .bool x58_23 ∧ Aside0 (tamislaw06_VerifyWays.j3 kq l0 l1 x5_2 x6_2 x7_2 t261 x58_23 ((rd_T56 l0 x5_2).f0) ((rd_T56 l0 x5_2).f1) ((rd_T56 l0 x5_2).f2) ((rd_T56 l0 x5_2).f3) = some r) ∧ Aside0 (kq ≤ kj16) ∧ Aside0 (wc.heap[gb260]? = some (.cells #[.int .u16 ((rd_T56 l0 x5_2).f0), .int .u8 ((rd_T56 l0 x5_2).f1), .int .u8 ((rd_T56 l0 x5_2).f2), .int .u32 ((rd_T56 l0 x5_2).f3)] 56 (0, 0))) ∧ Aside0 (Below w.heap.size w wc))
                      case first =>
                        have H := HC24.out
                        clear HC24
                        by_cases c28 : t261 = 13
                        · rw [if_pos c28] at H
                          have c28b0 : (t261 == 13) = true := beq_iff_eq.mpr c28
                          have c28b1 : (t261 != 13) = false := bne_eq_false_iff_eq.mpr c28
                          clear c28
                          (first | rw [c28b0] | (simp only [i64_w, i32_w]; rw [c28b0]) | skip)
                          have H' := Aside0.mk H
                          clear H
                          go_wp2
                          go_meet
                          case rel => exact ⟨_, (true), (by first | rfl | (simp; done) | (simp [*]; done)), H', ⟨by have := HJ2.out; have := HK2.out; have := HJ16.out; first | omega | exact Nat.le_refl _⟩, ⟨by (with_reducible repeat (first | refine blk_drewN ?_ _ | refine blk_drew ?_ | refine blk_alloc ?_ _)); exact BK260.out⟩, ⟨by repeat (first | (with_reducible first | exact HB.out | apply below_alloc | apply pw_below_drewN | apply below_drew1 | refine below_set ?_ GE260.out) | exact HB.out)⟩⟩
                        · rw [if_neg c28] at H
                          have c28b0 : (t261 == 13) = false := beq_eq_false_iff_ne.mpr c28
                          have c28b1 : (t261 != 13) = true := bne_iff_ne.mpr c28
                          (first | rw [c28b0] | (simp only [i64_w, i32_w]; rw [c28b0]) | skip)
                          have H' := Aside0.mk H
                          clear H
                          go_wp2
                          go_meet
                          case rel => exact ⟨_, ((t261 == 14)), (by first | rfl | (simp; done) | (simp [*]; done)), H', ⟨by have := HJ2.out; have := HK2.out; have := HJ16.out; first | omega | exact Nat.le_refl _⟩, ⟨by (with_reducible repeat (first | refine blk_drewN ?_ _ | refine blk_drew ?_ | refine blk_alloc ?_ _)); exact BK260.out⟩, ⟨by repeat (first | (with_reducible first | exact HB.out | apply below_alloc | apply pw_below_drewN | apply below_drew1 | refine below_set ?_ GE260.out) | exact HB.out)⟩⟩
                      case rest =>
                        clear HC24
                        try clear c1
                        try clear c2
                        try clear p2
                        try clear q2
                        try clear hx2
                        try clear c3
                        try clear c4
                        try clear c5
                        try clear c6
                        try clear c6b0
                        try clear c6b1
                        try clear c7
                        try clear c8
                        try clear c8b0
                        try clear c8b1
                        try clear c14
                        try clear c18
                        try clear c18b0
                        try clear c19
                        try clear c19b0
                        try clear c20
                        try clear c21
                        try clear c21b0
                        try clear c22
                        try clear c22b0
                        try clear p25
                        try clear q25
                        try clear hx25
                        try clear c28
                        try clear c28b0
                        try clear c28b1
                        try clear hcz26_0
                        try clear hcz26_1
                        try clear hcz26_2
                        try clear hcz26_3
                        try clear hfz26_0
                        try clear hfz26_1
                        try clear hfz26_2
                        try clear hfz26_3
                        try clear hx259_0
                        try clear hx259_1
                        try clear hx259_2
                        try clear hx259_3
                        try clear p2
                        try clear p259
                        try clear q259
                        obtain ⟨kq, x58_23, rfl, HA, HJ23, BK260, HB⟩ := hcut
                        cases kq with
                        | zero => exact absurd HA.out (by simp [tamislaw06_VerifyWays.j3])
                        | succ kj23 =>
                          have H := HA.out
                          clear HA
                          simp only [tamislaw06_VerifyWays.j3] at H
                          by_cases c29 : x58_23 = true
                          · subst c29
                            have H1 : (some true) = some r := by rw [if_pos rfl] at H; exact H
                            clear H
                            have H := H1
                            clear H1
                            obtain rfl := Option.some.inj H
                            go_wp2
                            go_ret
                            exact ⟨by first | rfl | (simp [errW_none, errW_some] <;> rfl) | (simp [*, errW_none, errW_some] <;> rfl), by repeat (first | (with_reducible first | exact HB.out | apply below_alloc | apply pw_below_drewN | apply below_drew1 | refine below_set ?_ GE260.out) | exact HB.out)⟩
                          · replace c29 := Bool.eq_false_iff.mpr c29
                            subst c29
                            have H1 : (if t261 = 4 then (if 0 ≤ ((rd_T56 l0 x5_2).f3) then (tamislaw06_VerifyWays.j4 kj23 l0 l1 x5_2 x6_2 x7_2 t261 ((Go.bits .and .i64 (shr .i64 x6_2 ((rd_T56 l0 x5_2).f3)) 1) == 0) ((rd_T56 l0 x5_2).f0) ((rd_T56 l0 x5_2).f1) ((rd_T56 l0 x5_2).f2) ((rd_T56 l0 x5_2).f3)) else (none)) else (if t261 = 6 then (if 0 ≤ ((rd_T56 l0 x5_2).f3) then (tamislaw06_VerifyWays.j4 kj23 l0 l1 x5_2 x6_2 x7_2 t261 ((Go.bits .and .i64 (shr .i64 x6_2 ((rd_T56 l0 x5_2).f3)) 1) == 0) ((rd_T56 l0 x5_2).f0) ((rd_T56 l0 x5_2).f1) ((rd_T56 l0 x5_2).f2) ((rd_T56 l0 x5_2).f3)) else (none)) else (tamislaw06_VerifyWays.j4 kj23 l0 l1 x5_2 x6_2 x7_2 t261 false ((rd_T56 l0 x5_2).f0) ((rd_T56 l0 x5_2).f1) ((rd_T56 l0 x5_2).f2) ((rd_T56 l0 x5_2).f3)))) = some r := by rw [if_neg (show ¬ (false = true) by decide)] at H; exact H
                            clear H
                            have H := H1
                            clear H1
                            have HC30 := Aside0.mk H
                            clear H
                            go_upto_region 12 with (fail)
                            go_cut [72] (fun v72 wc => ∃ (kq : Nat) (x72_29 : Bool), v72 = .bool x72_29 ∧ Aside0 (tamislaw06_VerifyWays.j4 kq l0 l1 x5_2 x6_2 x7_2 t261 x72_29 ((rd_T56 l0 x5_2).f0) ((rd_T56 l0 x5_2).f1) ((rd_T56 l0 x5_2).f2) ((rd_T56 l0 x5_2).f3) = some r) ∧ Aside0 (kq ≤ kj23) ∧ Aside0 (wc.heap[gb260]? = some (.cells #[.int .u16 ((rd_T56 l0 x5_2).f0), .int .u8 ((rd_T56 l0 x5_2).f1), .int .u8 ((rd_T56 l0 x5_2).f2), .int .u32 ((rd_T56 l0 x5_2).f3)] 56 (0, 0))) ∧ Aside0 (Below w.heap.size w wc))
                            case first =>
                              have H := HC30.out
                              clear HC30
                              by_cases c31 : t261 = 4
                              · rw [if_pos c31] at H
                                have c31b0 : (t261 == 4) = true := beq_iff_eq.mpr c31
                                have c31b1 : (t261 != 4) = false := bne_eq_false_iff_eq.mpr c31
                                clear c31
                                (first | rw [c31b0] | (simp only [i64_w, i32_w]; rw [c31b0]) | skip)
                                by_cases c32 : 0 ≤ ((rd_T56 l0 x5_2).f3)
                                · rw [if_pos c32] at H
                                  have c32b0 := eq_true c32
                                  have c32b1 : decide (0 ≤ ((rd_T56 l0 x5_2).f3)) = true := decide_eq_true c32
                                  clear c32
                                  obtain ⟨ji33, hji33⟩ : ∃ j_ : Int, (shr .i64 x6_2 ((rd_T56 l0 x5_2).f3)) = j_ := ⟨_, rfl⟩
                                  replace H : (tamislaw06_VerifyWays.j4 kj23 l0 l1 x5_2 x6_2 x7_2 t261 ((Go.bits .and .i64 (ji33) 1) == 0) ((rd_T56 l0 x5_2).f0) ((rd_T56 l0 x5_2).f1) ((rd_T56 l0 x5_2).f2) ((rd_T56 l0 x5_2).f3)) = some r := by first | (rw [hji33] at H; exact H) | (simp only [hji33] at H ⊢; exact H)
                                  have hji33_ : (x6_2 / 2 ^ min ((rd_T56 l0 x5_2).f3).toNat 64) = ji33 := hji33
                                  have hji33z : ((rd_T56 l0 x5_2).f3) ≤ 64 → (x6_2 / 2 ^ ((rd_T56 l0 x5_2).f3).toNat) = ji33 := shr_small hji33
                                  have H' := Aside0.mk H
                                  clear H
                                  have hcz34_0 : wc.cell? ⟨gb260, 0, none⟩ = some (.int .u16 ((rd_T56 l0 x5_2).f0)) := (blk_cell BK260.out 0).trans rfl
                                  have hcz34_1 : wc.cell? ⟨gb260, 1, none⟩ = some (.int .u8 ((rd_T56 l0 x5_2).f1)) := (blk_cell BK260.out 1).trans rfl
                                  have hcz34_2 : wc.cell? ⟨gb260, 2, none⟩ = some (.int .u8 ((rd_T56 l0 x5_2).f2)) := (blk_cell BK260.out 2).trans rfl
                                  have hcz34_3 : wc.cell? ⟨gb260, 3, none⟩ = some (.int .u32 ((rd_T56 l0 x5_2).f3)) := (blk_cell BK260.out 3).trans rfl
                                  have hfz34_0 := blk_frozen BK260.out 0
                                  have hfz34_1 := blk_frozen BK260.out 1
                                  have hfz34_2 := blk_frozen BK260.out 2
                                  have hfz34_3 := blk_frozen BK260.out 3
                                  go_wp2
                                  go_meet
                                  case rel => exact ⟨_, (((Go.bits .and .i64 (ji33) 1) == 0)), (by first | rfl | (simp; done) | (simp only [← hji33] <;> (first | rfl | simp)) | (simp [*]; done)), H', ⟨by have := HJ2.out; have := HK2.out; have := HJ16.out; have := HJ23.out; first | omega | exact Nat.le_refl _⟩, ⟨by (with_reducible repeat (first | refine blk_drewN ?_ _ | refine blk_drew ?_ | refine blk_alloc ?_ _)); exact BK260.out⟩, ⟨by repeat (first | (with_reducible first | exact HB.out | apply below_alloc | apply pw_below_drewN | apply below_drew1 | refine below_set ?_ GE260.out) | exact HB.out)⟩⟩
                                · rw [if_neg c32] at H
                                  exact absurd H (by simp)
                              · rw [if_neg c31] at H
                                have c31b0 : (t261 == 4) = false := beq_eq_false_iff_ne.mpr c31
                                have c31b1 : (t261 != 4) = true := bne_iff_ne.mpr c31
                                (first | rw [c31b0] | (simp only [i64_w, i32_w]; rw [c31b0]) | skip)
                                by_cases c35 : t261 = 6
                                · rw [if_pos c35] at H
                                  have c35b0 : (t261 == 6) = true := beq_iff_eq.mpr c35
                                  have c35b1 : (t261 != 6) = false := bne_eq_false_iff_eq.mpr c35
                                  clear c35
                                  by_cases c36 : 0 ≤ ((rd_T56 l0 x5_2).f3)
                                  · rw [if_pos c36] at H
                                    have c36b0 := eq_true c36
                                    have c36b1 : decide (0 ≤ ((rd_T56 l0 x5_2).f3)) = true := decide_eq_true c36
                                    clear c36
                                    obtain ⟨ji37, hji37⟩ : ∃ j_ : Int, (shr .i64 x6_2 ((rd_T56 l0 x5_2).f3)) = j_ := ⟨_, rfl⟩
                                    replace H : (tamislaw06_VerifyWays.j4 kj23 l0 l1 x5_2 x6_2 x7_2 t261 ((Go.bits .and .i64 (ji37) 1) == 0) ((rd_T56 l0 x5_2).f0) ((rd_T56 l0 x5_2).f1) ((rd_T56 l0 x5_2).f2) ((rd_T56 l0 x5_2).f3)) = some r := by first | (rw [hji37] at H; exact H) | (simp only [hji37] at H ⊢; exact H)
                                    have hji37_ : (x6_2 / 2 ^ min ((rd_T56 l0 x5_2).f3).toNat 64) = ji37 := hji37
                                    have hji37z : ((rd_T56 l0 x5_2).f3) ≤ 64 → (x6_2 / 2 ^ ((rd_T56 l0 x5_2).f3).toNat) = ji37 := shr_small hji37
                                    have H' := Aside0.mk H
                                    clear H
                                    have hcz38_0 : wc.cell? ⟨gb260, 0, none⟩ = some (.int .u16 ((rd_T56 l0 x5_2).f0)) := (blk_cell BK260.out 0).trans rfl
                                    have hcz38_1 : wc.cell? ⟨gb260, 1, none⟩ = some (.int .u8 ((rd_T56 l0 x5_2).f1)) := (blk_cell BK260.out 1).trans rfl
                                    have hcz38_2 : wc.cell? ⟨gb260, 2, none⟩ = some (.int .u8 ((rd_T56 l0 x5_2).f2)) := (blk_cell BK260.out 2).trans rfl
                                    have hcz38_3 : wc.cell? ⟨gb260, 3, none⟩ = some (.int .u32 ((rd_T56 l0 x5_2).f3)) := (blk_cell BK260.out 3).trans rfl
                                    have hfz38_0 := blk_frozen BK260.out 0
                                    have hfz38_1 := blk_frozen BK260.out 1
                                    have hfz38_2 := blk_frozen BK260.out 2
                                    have hfz38_3 := blk_frozen BK260.out 3
                                    go_wp2
                                    go_meet
                                    case rel => exact ⟨_, (((Go.bits .and .i64 (ji37) 1) == 0)), (by first | rfl | (simp; done) | (simp only [← hji37] <;> (first | rfl | simp)) | (simp [*]; done)), H', ⟨by have := HJ2.out; have := HK2.out; have := HJ16.out; have := HJ23.out; first | omega | exact Nat.le_refl _⟩, ⟨by (with_reducible repeat (first | refine blk_drewN ?_ _ | refine blk_drew ?_ | refine blk_alloc ?_ _)); exact BK260.out⟩, ⟨by repeat (first | (with_reducible first | exact HB.out | apply below_alloc | apply pw_below_drewN | apply below_drew1 | refine below_set ?_ GE260.out) | exact HB.out)⟩⟩
                                  · rw [if_neg c36] at H
                                    exact absurd H (by simp)
                                · rw [if_neg c35] at H
                                  have c35b0 : (t261 == 6) = false := beq_eq_false_iff_ne.mpr c35
                                  have c35b1 : (t261 != 6) = true := bne_iff_ne.mpr c35
                                  have H' := Aside0.mk H
                                  clear H
                                  go_wp2
                                  go_meet
                                  case rel => exact ⟨_, (false), (by first | rfl | (simp; done) | (simp [*]; done)), H', ⟨by have := HJ2.out; have := HK2.out; have := HJ16.out; have := HJ23.out; first | omega | exact Nat.le_refl _⟩, ⟨by (with_reducible repeat (first | refine blk_drewN ?_ _ | refine blk_drew ?_ | refine blk_alloc ?_ _)); exact BK260.out⟩, ⟨by repeat (first | (with_reducible first | exact HB.out | apply below_alloc | apply pw_below_drewN | apply below_drew1 | refine below_set ?_ GE260.out) | exact HB.out)⟩⟩
                            case rest =>
                              clear HC30
                              try clear c1
                              try clear c2
                              try clear p2
                              try clear q2
                              try clear hx2
                              try clear c3
                              try clear c4
                              try clear c5
                              try clear c6
                              try clear c6b0
                              try clear c6b1
                              try clear c7
                              try clear c8
                              try clear c8b0
                              try clear c8b1
                              try clear c14
                              try clear c18
                              try clear c18b0
                              try clear c19
                              try clear c19b0
                              try clear c20
                              try clear c21
                              try clear c21b0
                              try clear c22
                              try clear c22b0
                              try clear p25
                              try clear q25
                              try clear hx25
                              try clear c28
                              try clear c28b0
                              try clear c28b1
                              try clear c29
                              try clear c31
                              try clear c31b0
                              try clear c31b1
                              try clear c32
                              try clear c32b0
                              try clear c32b1
                              try clear c35
                              try clear c35b0
                              try clear c35b1
                              try clear c36
                              try clear c36b0
                              try clear c36b1
                              try clear c37
                              try clear hcz26_0
                              try clear hcz26_1
                              try clear hcz26_2
                              try clear hcz26_3
                              try clear hcz34_0
                              try clear hcz34_1
                              try clear hcz34_2
                              try clear hcz34_3
                              try clear hcz38_0
                              try clear hcz38_1
                              try clear hcz38_2
                              try clear hcz38_3
                              try clear hfz26_0
                              try clear hfz26_1
                              try clear hfz26_2
                              try clear hfz26_3
                              try clear hfz34_0
                              try clear hfz34_1
                              try clear hfz34_2
                              try clear hfz34_3
                              try clear hfz38_0
                              try clear hfz38_1
                              try clear hfz38_2
                              try clear hfz38_3
                              try clear hx259_0
                              try clear hx259_1
                              try clear hx259_2
                              try clear hx259_3
                              try clear p2
                              try clear p25
                              try clear p259
                              try clear q2
                              try clear q25
                              try clear q259
                              obtain ⟨kq, x72_29, rfl, HA, HJ29, BK260, HB⟩ := hcut
                              cases kq with
                              | zero => exact absurd HA.out (by simp [tamislaw06_VerifyWays.j4])
                              | succ kj29 =>
                                have H := HA.out
                                clear HA
                                simp only [tamislaw06_VerifyWays.j4] at H
                                by_cases c39 : x72_29 = true
                                · subst c39
                                  have H1 : (some false) = some r := by rw [if_pos rfl] at H; exact H
                                  clear H
                                  have H := H1
                                  clear H1
                                  obtain rfl := Option.some.inj H
                                  go_wp2
                                  go_ret
                                  exact ⟨by first | rfl | (simp [errW_none, errW_some] <;> rfl) | (simp [*, errW_none, errW_some] <;> rfl), by repeat (first | (with_reducible first | exact HB.out | apply below_alloc | apply pw_below_drewN | apply below_drew1 | refine below_set ?_ GE260.out) | exact HB.out)⟩
                                · replace c39 := Bool.eq_false_iff.mpr c39
                                  subst c39
                                  have H1 : (if t261 = 8 then (tamislaw06_VerifyWays.j5 kj29 l0 l1 x5_2 x6_2 x7_2 true ((rd_T56 l0 x5_2).f0) ((rd_T56 l0 x5_2).f1) ((rd_T56 l0 x5_2).f2) ((rd_T56 l0 x5_2).f3)) else (tamislaw06_VerifyWays.j5 kj29 l0 l1 x5_2 x6_2 x7_2 (t261 == 9) ((rd_T56 l0 x5_2).f0) ((rd_T56 l0 x5_2).f1) ((rd_T56 l0 x5_2).f2) ((rd_T56 l0 x5_2).f3))) = some r := by rw [if_neg (show ¬ (false = true) by decide)] at H; exact H
                                  clear H
                                  have H := H1
                                  clear H1
                                  have HC40 := Aside0.mk H
                                  clear H
                                  go_upto_region 14 with (fail)
                                  go_cut [78] (fun v78 wc => ∃ (kq : Nat) (x78_39 : Bool), v78 = .bool x78_39 ∧ Aside0 (tamislaw06_VerifyWays.j5 kq l0 l1 x5_2 x6_2 x7_2 x78_39 ((rd_T56 l0 x5_2).f0) ((rd_T56 l0 x5_2).f1) ((rd_T56 l0 x5_2).f2) ((rd_T56 l0 x5_2).f3) = some r) ∧ Aside0 (kq ≤ kj29) ∧ Aside0 (wc.heap[gb260]? = some (.cells #[.int .u16 ((rd_T56 l0 x5_2).f0), .int .u8 ((rd_T56 l0 x5_2).f1), .int .u8 ((rd_T56 l0 x5_2).f2), .int .u32 ((rd_T56 l0 x5_2).f3)] 56 (0, 0))) ∧ Aside0 (Below w.heap.size w wc))
                                  case first =>
                                    have H := HC40.out
                                    clear HC40
                                    by_cases c41 : t261 = 8
                                    · rw [if_pos c41] at H
                                      have c41b0 : (t261 == 8) = true := beq_iff_eq.mpr c41
                                      have c41b1 : (t261 != 8) = false := bne_eq_false_iff_eq.mpr c41
                                      clear c41
                                      (first | rw [c41b0] | (simp only [i64_w, i32_w]; rw [c41b0]) | skip)
                                      have H' := Aside0.mk H
                                      clear H
                                      go_wp2
                                      go_meet
                                      case rel => exact ⟨_, (true), (by first | rfl | (simp; done) | (simp [*]; done)), H', ⟨by have := HJ2.out; have := HK2.out; have := HJ16.out; have := HJ23.out; have := HJ29.out; first | omega | exact Nat.le_refl _⟩, ⟨by (with_reducible repeat (first | refine blk_drewN ?_ _ | refine blk_drew ?_ | refine blk_alloc ?_ _)); exact BK260.out⟩, ⟨by repeat (first | (with_reducible first | exact HB.out | apply below_alloc | apply pw_below_drewN | apply below_drew1 | refine below_set ?_ GE260.out) | exact HB.out)⟩⟩
                                    · rw [if_neg c41] at H
                                      have c41b0 : (t261 == 8) = false := beq_eq_false_iff_ne.mpr c41
                                      have c41b1 : (t261 != 8) = true := bne_iff_ne.mpr c41
                                      (first | rw [c41b0] | (simp only [i64_w, i32_w]; rw [c41b0]) | skip)
                                      have H' := Aside0.mk H
                                      clear H
                                      go_wp2
                                      go_meet
                                      case rel => exact ⟨_, ((t261 == 9)), (by first | rfl | (simp; done) | (simp [*]; done)), H', ⟨by have := HJ2.out; have := HK2.out; have := HJ16.out; have := HJ23.out; have := HJ29.out; first | omega | exact Nat.le_refl _⟩, ⟨by (with_reducible repeat (first | refine blk_drewN ?_ _ | refine blk_drew ?_ | refine blk_alloc ?_ _)); exact BK260.out⟩, ⟨by repeat (first | (with_reducible first | exact HB.out | apply below_alloc | apply pw_below_drewN | apply below_drew1 | refine below_set ?_ GE260.out) | exact HB.out)⟩⟩
                                  case rest =>
                                    clear HC40
                                    try clear c1
                                    try clear c2
                                    try clear p2
                                    try clear q2
                                    try clear hx2
                                    try clear c3
                                    try clear c4
                                    try clear c5
                                    try clear c6
                                    try clear c6b0
                                    try clear c6b1
                                    try clear c7
                                    try clear c8
                                    try clear c8b0
                                    try clear c8b1
                                    try clear c14
                                    try clear c18
                                    try clear c18b0
                                    try clear c19
                                    try clear c19b0
                                    try clear c20
                                    try clear c21
                                    try clear c21b0
                                    try clear c22
                                    try clear c22b0
                                    try clear p25
                                    try clear q25
                                    try clear hx25
                                    try clear c28
                                    try clear c28b0
                                    try clear c28b1
                                    try clear c29
                                    try clear c31
                                    try clear c31b0
                                    try clear c31b1
                                    try clear c32
                                    try clear c32b0
                                    try clear c32b1
                                    try clear c35
                                    try clear c35b0
                                    try clear c35b1
                                    try clear c36
                                    try clear c36b0
                                    try clear c36b1
                                    try clear c37
                                    try clear c39
                                    try clear c41
                                    try clear c41b0
                                    try clear c41b1
                                    try clear hcz26_0
                                    try clear hcz26_1
                                    try clear hcz26_2
                                    try clear hcz26_3
                                    try clear hcz34_0
                                    try clear hcz34_1
                                    try clear hcz34_2
                                    try clear hcz34_3
                                    try clear hcz38_0
                                    try clear hcz38_1
                                    try clear hcz38_2
                                    try clear hcz38_3
                                    try clear hfz26_0
                                    try clear hfz26_1
                                    try clear hfz26_2
                                    try clear hfz26_3
                                    try clear hfz34_0
                                    try clear hfz34_1
                                    try clear hfz34_2
                                    try clear hfz34_3
                                    try clear hfz38_0
                                    try clear hfz38_1
                                    try clear hfz38_2
                                    try clear hfz38_3
                                    try clear hx259_0
                                    try clear hx259_1
                                    try clear hx259_2
                                    try clear hx259_3
                                    try clear p2
                                    try clear p25
                                    try clear p259
                                    try clear q2
                                    try clear q25
                                    try clear q259
                                    obtain ⟨kq, x78_39, rfl, HA, HJ39, BK260, HB⟩ := hcut
                                    cases kq with
                                    | zero => exact absurd HA.out (by simp [tamislaw06_VerifyWays.j5])
                                    | succ kj39 =>
                                      have H := HA.out
                                      clear HA
                                      simp only [tamislaw06_VerifyWays.j5] at H
                                      have HC42 := Aside0.mk H
                                      clear H
                                      go_upto_if 78 with (fail)
                                      go_cut [6] (fun v6 wc => ∃ (kq : Nat) (x6_41 : Int), v6 = .int .i64 x6_41 ∧ Aside0 (tamislaw06_VerifyWays.j6 kq l0 l1 x5_2 x6_41 x7_2 = some r) ∧ Aside0 (kq ≤ kj39) ∧ Aside0 (wc.heap[gb260]? = some (.cells #[.int .u16 ((rd_T56 l0 x5_2).f0), .int .u8 ((rd_T56 l0 x5_2).f1), .int .u8 ((rd_T56 l0 x5_2).f2), .int .u32 ((rd_T56 l0 x5_2).f3)] 56 (0, 0))) ∧ Aside0 (Below w.heap.size w wc))
                                      case first =>
                                        have H := HC42.out
                                        clear HC42
                                        by_cases c43 : x78_39 = true
                                        · subst c43
                                          have H1 : (if 0 ≤ ((rd_T56 l0 x5_2).f3) then (tamislaw06_VerifyWays.j6 kj39 l0 l1 x5_2 (Go.bits .or .i64 x6_2 (shl .i64 1 ((rd_T56 l0 x5_2).f3))) x7_2) else (none)) = some r := by rw [if_pos rfl] at H; exact H
                                          clear H
                                          have H := H1
                                          clear H1
                                          by_cases c44 : 0 ≤ ((rd_T56 l0 x5_2).f3)
                                          · rw [if_pos c44] at H
                                            have c44b0 := eq_true c44
                                            have c44b1 : decide (0 ≤ ((rd_T56 l0 x5_2).f3)) = true := decide_eq_true c44
                                            clear c44
                                            obtain ⟨ji45, hji45⟩ : ∃ j_ : Int, (shl .i64 1 ((rd_T56 l0 x5_2).f3)) = j_ := ⟨_, rfl⟩
                                            replace H : (tamislaw06_VerifyWays.j6 kj39 l0 l1 x5_2 (Go.bits .or .i64 x6_2 (ji45)) x7_2) = some r := by first | (rw [hji45] at H; exact H) | (simp only [hji45] at H ⊢; exact H)
                                            have hji45_ : (IntKind.i64.wrap (1 * 2 ^ min ((rd_T56 l0 x5_2).f3).toNat 64)) = ji45 := hji45
                                            have hji45z : ((rd_T56 l0 x5_2).f3) ≤ 64 → (IntKind.i64.wrap (1 * 2 ^ ((rd_T56 l0 x5_2).f3).toNat)) = ji45 := shl_small hji45
                                            have hji45u : (IntKind.i64.wrap (2 ^ min ((rd_T56 l0 x5_2).f3).toNat 64)) = ji45 := by have h_ := hji45_; rw [Int.one_mul] at h_; exact h_
                                            have hji45v : ((rd_T56 l0 x5_2).f3) ≤ 64 → (IntKind.i64.wrap (2 ^ ((rd_T56 l0 x5_2).f3).toNat)) = ji45 := fun hle_ => by have h_ := hji45z hle_; rw [Int.one_mul] at h_; exact h_
                                            have hji45y : (wrap64 (1 * 2 ^ min ((rd_T56 l0 x5_2).f3).toNat 64)) = ji45 := (i64_w _).symm.trans hji45_
                                            have hji45x : ((rd_T56 l0 x5_2).f3) ≤ 64 → (wrap64 (1 * 2 ^ ((rd_T56 l0 x5_2).f3).toNat)) = ji45 := fun h_ => (i64_w _).symm.trans (hji45z h_)
                                            have H' := Aside0.mk H
                                            clear H
                                            have hcz46_0 : wc.cell? ⟨gb260, 0, none⟩ = some (.int .u16 ((rd_T56 l0 x5_2).f0)) := (blk_cell BK260.out 0).trans rfl
                                            have hcz46_1 : wc.cell? ⟨gb260, 1, none⟩ = some (.int .u8 ((rd_T56 l0 x5_2).f1)) := (blk_cell BK260.out 1).trans rfl
                                            have hcz46_2 : wc.cell? ⟨gb260, 2, none⟩ = some (.int .u8 ((rd_T56 l0 x5_2).f2)) := (blk_cell BK260.out 2).trans rfl
                                            have hcz46_3 : wc.cell? ⟨gb260, 3, none⟩ = some (.int .u32 ((rd_T56 l0 x5_2).f3)) := (blk_cell BK260.out 3).trans rfl
                                            have hfz46_0 := blk_frozen BK260.out 0
                                            have hfz46_1 := blk_frozen BK260.out 1
                                            have hfz46_2 := blk_frozen BK260.out 2
                                            have hfz46_3 := blk_frozen BK260.out 3
                                            go_wp2
                                            go_meet
                                            case rel => exact ⟨_, (Go.bits .or .i64 x6_2 (ji45)), (by first | rfl | (simp; done) | (simp only [← hji45] <;> (first | rfl | simp)) | (simp [*]; done)), H', ⟨by have := HJ2.out; have := HK2.out; have := HJ16.out; have := HJ23.out; have := HJ29.out; have := HJ39.out; first | omega | exact Nat.le_refl _⟩, ⟨by (with_reducible repeat (first | refine blk_drewN ?_ _ | refine blk_drew ?_ | refine blk_alloc ?_ _)); exact BK260.out⟩, ⟨by repeat (first | (with_reducible first | exact HB.out | apply below_alloc | apply pw_below_drewN | apply below_drew1 | refine below_set ?_ GE260.out) | exact HB.out)⟩⟩
                                          · rw [if_neg c44] at H
                                            exact absurd H (by simp)
                                        · replace c43 := Bool.eq_false_iff.mpr c43
                                          subst c43
                                          have H1 : (tamislaw06_VerifyWays.j6 kj39 l0 l1 x5_2 x6_2 x7_2) = some r := by rw [if_neg (show ¬ (false = true) by decide)] at H; exact H
                                          clear H
                                          have H := H1
                                          clear H1
                                          have H' := Aside0.mk H
                                          clear H
                                          go_wp2
                                          go_meet
                                          case rel => exact ⟨_, (x6_2), (by first | rfl | (simp; done) | (simp [*]; done)), H', ⟨by have := HJ2.out; have := HK2.out; have := HJ16.out; have := HJ23.out; have := HJ29.out; have := HJ39.out; first | omega | exact Nat.le_refl _⟩, ⟨by (with_reducible repeat (first | refine blk_drewN ?_ _ | refine blk_drew ?_ | refine blk_alloc ?_ _)); exact BK260.out⟩, ⟨by repeat (first | (with_reducible first | exact HB.out | apply below_alloc | apply pw_below_drewN | apply below_drew1 | refine below_set ?_ GE260.out) | exact HB.out)⟩⟩
                                      case rest =>
                                        clear HC42
                                        try clear c1
                                        try clear c2
                                        try clear p2
                                        try clear q2
                                        try clear hx2
                                        try clear c3
                                        try clear c4
                                        try clear c5
                                        try clear c6
                                        try clear c6b0
                                        try clear c6b1
                                        try clear p6
                                        try clear c7
                                        try clear c8
                                        try clear c8b0
                                        try clear c8b1
                                        try clear c14
                                        try clear c18
                                        try clear c18b0
                                        try clear c19
                                        try clear c19b0
                                        try clear c20
                                        try clear c21
                                        try clear c21b0
                                        try clear c22
                                        try clear c22b0
                                        try clear p25
                                        try clear q25
                                        try clear hx25
                                        try clear c28
                                        try clear c28b0
                                        try clear c28b1
                                        try clear c29
                                        try clear c31
                                        try clear c31b0
                                        try clear c31b1
                                        try clear c32
                                        try clear c32b0
                                        try clear c32b1
                                        try clear c35
                                        try clear c35b0
                                        try clear c35b1
                                        try clear c36
                                        try clear c36b0
                                        try clear c36b1
                                        try clear c37
                                        try clear c39
                                        try clear c41
                                        try clear c41b0
                                        try clear c41b1
                                        try clear c43
                                        try clear c44
                                        try clear c44b0
                                        try clear c44b1
                                        try clear c45
                                        try clear hcz26_0
                                        try clear hcz26_1
                                        try clear hcz26_2
                                        try clear hcz26_3
                                        try clear hcz34_0
                                        try clear hcz34_1
                                        try clear hcz34_2
                                        try clear hcz34_3
                                        try clear hcz38_0
                                        try clear hcz38_1
                                        try clear hcz38_2
                                        try clear hcz38_3
                                        try clear hcz46_0
                                        try clear hcz46_1
                                        try clear hcz46_2
                                        try clear hcz46_3
                                        try clear hfz26_0
                                        try clear hfz26_1
                                        try clear hfz26_2
                                        try clear hfz26_3
                                        try clear hfz34_0
                                        try clear hfz34_1
                                        try clear hfz34_2
                                        try clear hfz34_3
                                        try clear hfz38_0
                                        try clear hfz38_1
                                        try clear hfz38_2
                                        try clear hfz38_3
                                        try clear hfz46_0
                                        try clear hfz46_1
                                        try clear hfz46_2
                                        try clear hfz46_3
                                        try clear hx259_0
                                        try clear hx259_1
                                        try clear hx259_2
                                        try clear hx259_3
                                        try clear p2
                                        try clear p25
                                        try clear p259
                                        try clear q2
                                        try clear q25
                                        try clear q259
                                        obtain ⟨kq, x6_41, rfl, HA, HJ41, BK260, HB⟩ := hcut
                                        cases kq with
                                        | zero => exact absurd HA.out (by simp [tamislaw06_VerifyWays.j6])
                                        | succ kj41 =>
                                          have H := HA.out
                                          clear HA
                                          simp only [tamislaw06_VerifyWays.j6] at H
                                          replace H := Option.bind_eq_some_iff.mp H
                                          obtain ⟨t262, A470, H⟩ := H
                                          replace H : (if x7_2 < (l1.length : Int) then (if 0 ≤ x7_2 then (tamislaw06_VerifyWays.j7 kj41 l0 l1 x5_2 x6_41 x7_2 t262 0 (rdOf false l1 x7_2)) else (none)) else (tamislaw06_VerifyWays.j7 kj41 l0 l1 x5_2 x6_41 x7_2 t262 0 false)) = some r := H
                                          have A47 := Aside0.mk A470
                                          clear A470
                                          have HC48 := Aside0.mk H
                                          clear H
                                          go_upto_region 18 with (first | ((with_reducible refine gate_callee (f := 46) rfl ?_); refine goesL_ (some 86) rfl rfl Try.func46 (by kernel_rfl) rfl #[.slice (some ad259) l0.length c0, .int .i64 x5_2] rfl (by (try simp only [List.map_toArray, List.map_cons, List.map_nil]); first | done | rfl | (simp only [List.length_drop, List.length_take]; rfl)) ?_; (with_reducible refine (tamisref06_Next.calls kj41 _ _ l0 x5_2 t262 _ ?side1 ?side2 A47.out).mono ?_); (case side1 => repeat (first | exact (Kd.C_below HR0.out HB.out) | (with_reducible refine Kd.C_alloc ?_ _) | (with_reducible refine Kd.C_drewN ?_ _) | (with_reducible refine Kd.C_drew ?_))); (case side2 => exact HC0.out); rintro e w49 ⟨v263, rfl, ho0, hb⟩; refine ⟨_, rfl, ?_⟩; have n0_ := Aside0.mk (Kd.R_lower ho0 (below_size (by repeat (first | (with_reducible first | exact HB.out | apply below_alloc | apply pw_below_drewN | apply below_drew1 | refine below_set ?_ GE260.out) | exact HB.out)))); have n1_ := Aside0.mk (blk_below (g := gb260) (o := .cells #[.int .u16 ((rd_T56 l0 x5_2).f0), .int .u8 ((rd_T56 l0 x5_2).f1), .int .u8 ((rd_T56 l0 x5_2).f2), .int .u32 ((rd_T56 l0 x5_2).f3)] 56 (0, 0)) (by (with_reducible repeat (first | refine blk_drewN ?_ _ | refine blk_drew ?_ | refine blk_alloc ?_ _)); exact BK260.out) hb); have n2_ := Aside0.mk (below_step (by repeat (first | (with_reducible first | exact HB.out | apply below_alloc | apply pw_below_drewN | apply below_drew1 | refine below_set ?_ GE260.out) | exact HB.out)) hb); clear BK260; clear HB; have HO264 := n0_; have BK260 := n1_; have HB := n2_; clear n0_ n1_ n2_; (try clear hb); (try clear hb2); (try clear hk); (try clear hi); (try clear ho0)))
                                          (try simp only [Act.put, List.setIfInBounds_toArray, List.set_cons_zero, List.set_cons_succ])
                                          go_cut [96] (fun v96 wc => ∃ (kq : Nat) (x96_47 : Bool), v96 = .bool x96_47 ∧ Aside0 (tamislaw06_VerifyWays.j7 kq l0 l1 x5_2 x6_41 x7_2 t262 0 x96_47 = some r) ∧ Aside0 (kq ≤ kj41) ∧ Aside0 (Kd.R (Kd.int .i64) 3 wc w.heap.size (fun _ => True) v263 t262) ∧ Aside0 (wc.heap[gb260]? = some (.cells #[.int .u16 ((rd_T56 l0 x5_2).f0), .int .u8 ((rd_T56 l0 x5_2).f1), .int .u8 ((rd_T56 l0 x5_2).f2), .int .u32 ((rd_T56 l0 x5_2).f3)] 56 (0, 0))) ∧ Aside0 (Below w.heap.size w wc))
                                          case first =>
                                            have H := HC48.out
                                            clear HC48
                                            by_cases c50 : x7_2 < (l1.length : Int)
                                            · rw [if_pos c50] at H
                                              have c50b0 : decide (x7_2 < (l1.length : Int)) = true := decide_eq_true c50
                                              clear c50
                                              (first | rw [c50b0] | (simp only [i64_w, i32_w]; rw [c50b0]) | skip)
                                              by_cases c51 : 0 ≤ x7_2
                                              · rw [if_pos c51] at H
                                                have c51b0 : decide (0 ≤ x7_2) = true := decide_eq_true c51
                                                clear c51
                                                have H' := Aside0.mk H
                                                clear H
                                                have p265 : 0 ≤ (x7_2 : Int) := of_decide_eq_true (by first | (with_reducible assumption) | assumption)
                                                have q265 : x7_2 < (l1.length : Int) := of_decide_eq_true (by first | (with_reducible assumption) | assumption)
                                                obtain ⟨ad265, e265, hx265_0⟩ := Kd.at_bool HR1.out x7_2 p265 q265
                                                cases e265
                                                replace hx265_0 := (HB.out.cell (World.block_lt_of_cell? w _ hx265_0)).trans hx265_0
                                                replace p265 := eq_true p265
                                                replace q265 := eq_true q265
                                                go_wp2
                                                go_meet
                                                case rel => exact ⟨_, (rdOf false l1 x7_2), (by first | rfl | (simp; done) | (simp [*]; done)), H', ⟨by have := HJ2.out; have := HK2.out; have := HJ16.out; have := HJ23.out; have := HJ29.out; have := HJ39.out; have := HJ41.out; first | omega | exact Nat.le_refl _⟩, ⟨by (with_reducible repeat (first | apply Kd.R_alloc | apply Kd.R_drewN | apply Kd.R_drew)); exact HO264.out⟩, ⟨by (with_reducible repeat (first | refine blk_drewN ?_ _ | refine blk_drew ?_ | refine blk_alloc ?_ _)); exact BK260.out⟩, ⟨by repeat (first | (with_reducible first | exact HB.out | apply below_alloc | apply pw_below_drewN | apply below_drew1 | refine below_set ?_ GE260.out) | exact HB.out)⟩⟩
                                              · rw [if_neg c51] at H
                                                exact absurd H (by simp)
                                            · rw [if_neg c50] at H
                                              have c50b0 : decide (x7_2 < (l1.length : Int)) = false := decide_eq_false c50
                                              clear c50
                                              (first | rw [c50b0] | (simp only [i64_w, i32_w]; rw [c50b0]) | skip)
                                              have H' := Aside0.mk H
                                              clear H
                                              go_wp2
                                              go_meet
                                              case rel => exact ⟨_, (false), (by first | rfl | (simp; done) | (simp [*]; done)), H', ⟨by have := HJ2.out; have := HK2.out; have := HJ16.out; have := HJ23.out; have := HJ29.out; have := HJ39.out; have := HJ41.out; first | omega | exact Nat.le_refl _⟩, ⟨by (with_reducible repeat (first | apply Kd.R_alloc | apply Kd.R_drewN | apply Kd.R_drew)); exact HO264.out⟩, ⟨by (with_reducible repeat (first | refine blk_drewN ?_ _ | refine blk_drew ?_ | refine blk_alloc ?_ _)); exact BK260.out⟩, ⟨by repeat (first | (with_reducible first | exact HB.out | apply below_alloc | apply pw_below_drewN | apply below_drew1 | refine below_set ?_ GE260.out) | exact HB.out)⟩⟩
                                          case rest =>
                                            clear HC48
                                            try clear c1
                                            try clear c2
                                            try clear p2
                                            try clear q2
                                            try clear hx2
                                            try clear c3
                                            try clear c4
                                            try clear c5
                                            try clear c6
                                            try clear c6b0
                                            try clear c6b1
                                            try clear p6
                                            try clear c7
                                            try clear c8
                                            try clear c8b0
                                            try clear c8b1
                                            try clear c14
                                            try clear c18
                                            try clear c18b0
                                            try clear c19
                                            try clear c19b0
                                            try clear c20
                                            try clear c21
                                            try clear c21b0
                                            try clear c22
                                            try clear c22b0
                                            try clear p25
                                            try clear q25
                                            try clear hx25
                                            try clear p26
                                            try clear q26
                                            try clear hx26
                                            try clear c28
                                            try clear c28b0
                                            try clear c28b1
                                            try clear c29
                                            try clear c31
                                            try clear c31b0
                                            try clear c31b1
                                            try clear c32
                                            try clear c32b0
                                            try clear c32b1
                                            try clear c35
                                            try clear c35b0
                                            try clear c35b1
                                            try clear c36
                                            try clear c36b0
                                            try clear c36b1
                                            try clear c37
                                            try clear c39
                                            try clear c41
                                            try clear c41b0
                                            try clear c41b1
                                            try clear c43
                                            try clear c44
                                            try clear c44b0
                                            try clear c44b1
                                            try clear c45
                                            try clear c46
                                            try clear c50
                                            try clear c50b0
                                            try clear c51
                                            try clear c51b0
                                            try clear hcz26_0
                                            try clear hcz26_1
                                            try clear hcz26_2
                                            try clear hcz26_3
                                            try clear hcz34_0
                                            try clear hcz34_1
                                            try clear hcz34_2
                                            try clear hcz34_3
                                            try clear hcz38_0
                                            try clear hcz38_1
                                            try clear hcz38_2
                                            try clear hcz38_3
                                            try clear hcz46_0
                                            try clear hcz46_1
                                            try clear hcz46_2
                                            try clear hcz46_3
                                            try clear hfz26_0
                                            try clear hfz26_1
                                            try clear hfz26_2
                                            try clear hfz26_3
                                            try clear hfz34_0
                                            try clear hfz34_1
                                            try clear hfz34_2
                                            try clear hfz34_3
                                            try clear hfz38_0
                                            try clear hfz38_1
                                            try clear hfz38_2
                                            try clear hfz38_3
                                            try clear hfz46_0
                                            try clear hfz46_1
                                            try clear hfz46_2
                                            try clear hfz46_3
                                            try clear hx259_0
                                            try clear hx259_1
                                            try clear hx259_2
                                            try clear hx259_3
                                            try clear hx265_0
                                            try clear p2
                                            try clear p25
                                            try clear p259
                                            try clear p265
                                            try clear p6
                                            try clear q2
                                            try clear q25
                                            try clear q259
                                            try clear q265
                                            obtain ⟨kq, x96_47, rfl, HA, HJ47, HO_10, BK260, HB⟩ := hcut
                                            cases kq with
                                            | zero => exact absurd HA.out (by simp [tamislaw06_VerifyWays.j7])
                                            | succ kj47 =>
                                              have H := HA.out
                                              clear HA
                                              simp only [tamislaw06_VerifyWays.j7] at H
                                              by_cases c52 : x96_47 = true
                                              · subst c52
                                                have H1 : (if 0 ≤ (wrap64 ((t262.length : Int) - 1)) then (if (wrap64 ((t262.length : Int) - 1)) < (t262.length : Int) then (if (rd t262 (wrap64 ((t262.length : Int) - 1))) ≤ x5_2 then (some false) else (tamislaw06_VerifyWays.l0 kj47 l0 l1 (rd t262 (wrap64 ((t262.length : Int) - 1))) x6_41 (wrap64 (x7_2 + 1)))) else (none)) else (none)) = some r := by rw [if_pos rfl] at H; exact H
                                                clear H
                                                have H := H1
                                                clear H1
                                                obtain ⟨ji53, hji53⟩ : ∃ j_ : Int, (wrap64 ((t262.length : Int) - 1)) = j_ := ⟨_, rfl⟩
                                                replace H : (if 0 ≤ (ji53) then (if (ji53) < (t262.length : Int) then (if (rd t262 (ji53)) ≤ x5_2 then (some false) else (tamislaw06_VerifyWays.l0 kj47 l0 l1 (rd t262 (ji53)) x6_41 (wrap64 (x7_2 + 1)))) else (none)) else (none)) = some r := by first | (rw [hji53] at H; exact H) | (simp only [hji53] at H ⊢; exact H)
                                                have hji53w : (IntKind.i64.wrap ((t262.length : Int) - 1)) = ji53 := (i64_w _).trans hji53
                                                by_cases c54 : 0 ≤ (ji53)
                                                · rw [if_pos c54] at H
                                                  have c54b0 : decide (0 ≤ (ji53)) = true := decide_eq_true c54
                                                  clear c54
                                                  by_cases c55 : (ji53) < (t262.length : Int)
                                                  · rw [if_pos c55] at H
                                                    have c55b0 : decide ((ji53) < (t262.length : Int)) = true := decide_eq_true c55
                                                    clear c55
                                                    by_cases c56 : (rd t262 (ji53)) ≤ x5_2
                                                    · rw [if_pos c56] at H
                                                      have c56b0 : decide ((rd t262 (ji53)) ≤ x5_2) = true := decide_eq_true c56
                                                      clear c56
                                                      obtain rfl := Option.some.inj H
                                                      obtain ⟨Ao57, co57, eo57⟩ := Kd.R_slice HO_10.out
                                                      subst eo57
                                                      have p266 : 0 ≤ ((ji53) : Int) := of_decide_eq_true (by first | (with_reducible assumption) | assumption)
                                                      have q266 : (ji53) < (t262.length : Int) := of_decide_eq_true (by first | (with_reducible assumption) | assumption)
                                                      obtain ⟨ad266, e266, hx266_0⟩ := Kd.at_int (Kd.R_reads' HO_10.out).2.2 (ji53) p266 q266
                                                      cases e266
                                                      replace p266 := eq_true p266
                                                      replace q266 := eq_true q266
                                                      go_wp2
                                                      go_ret
                                                      exact ⟨by first | rfl | (simp [errW_none, errW_some] <;> rfl) | (simp only [← hji53]; first | rfl | (simp [errW_none, errW_some] <;> rfl)) | (simp [*, errW_none, errW_some] <;> rfl), by repeat (first | (with_reducible first | exact HB.out | apply below_alloc | apply pw_below_drewN | apply below_drew1 | refine below_set ?_ GE260.out) | exact HB.out)⟩
                                                    · rw [if_neg c56] at H
                                                      have c56b0 : decide ((rd t262 (ji53)) ≤ x5_2) = false := decide_eq_false c56
                                                      clear c56
                                                      have H' := Aside0.mk H
                                                      clear H
                                                      obtain ⟨Ao58, co58, eo58⟩ := Kd.R_slice HO_10.out
                                                      subst eo58
                                                      have p266 : 0 ≤ ((ji53) : Int) := of_decide_eq_true (by first | (with_reducible assumption) | assumption)
                                                      have q266 : (ji53) < (t262.length : Int) := of_decide_eq_true (by first | (with_reducible assumption) | assumption)
                                                      obtain ⟨ad266, e266, hx266_0⟩ := Kd.at_int (Kd.R_reads' HO_10.out).2.2 (ji53) p266 q266
                                                      cases e266
                                                      replace p266 := eq_true p266
                                                      replace q266 := eq_true q266
                                                      have p267 : 0 ≤ ((ji53) : Int) := of_decide_eq_true (by first | (with_reducible assumption) | assumption)
                                                      have q267 : (ji53) < (t262.length : Int) := of_decide_eq_true (by first | (with_reducible assumption) | assumption)
                                                      obtain ⟨ad267, e267, hx267_0⟩ := Kd.at_int (Kd.R_reads' HO_10.out).2.2 (ji53) p267 q267
                                                      obtain rfl : ad266 = ad267 := (by injection e267)
                                                      replace p267 := eq_true p267
                                                      replace q267 := eq_true q267
                                                      go_wp2
                                                      go_roundg kj47
                                                      case measure => have := HJ2.out; have := HK2.out; have := HJ16.out; have := HJ23.out; have := HJ29.out; have := HJ39.out; have := HJ41.out; have := HJ47.out; omega
                                                      case rel => exact ⟨(rd t262 (ji53)), (x6_41), (wrap64 (x7_2 + 1)), (by first | rfl | (simp; done) | (simp only [← hji53] <;> (first | rfl | simp)) | (simp [*]; done)), (by first | rfl | (simp; done) | (simp [*]; done)), (by first | rfl | (simp; done) | (simp [*]; done)), H', ⟨by have := HJ2.out; have := HK2.out; have := HJ16.out; have := HJ23.out; have := HJ29.out; have := HJ39.out; have := HJ41.out; have := HJ47.out; omega⟩, ⟨by repeat (first | (with_reducible first | exact HB.out | apply below_alloc | apply pw_below_drewN | apply below_drew1 | refine below_set ?_ GE260.out) | exact HB.out)⟩⟩
                                                  · rw [if_neg c55] at H
                                                    exact absurd H (by simp)
                                                · rw [if_neg c54] at H
                                                  exact absurd H (by simp)
                                              · replace c52 := Bool.eq_false_iff.mpr c52
                                                subst c52
                                                have H1 : (if 0 ≤ 0 then (if 0 < (t262.length : Int) then (if (rd t262 0) ≤ x5_2 then (some false) else (tamislaw06_VerifyWays.l0 kj47 l0 l1 (rd t262 0) x6_41 (wrap64 (x7_2 + 1)))) else (none)) else (none)) = some r := by rw [if_neg (show ¬ (false = true) by decide)] at H; exact H
                                                clear H
                                                have H := H1
                                                clear H1
                                                by_cases c59 : 0 ≤ 0
                                                · rw [if_pos c59] at H
                                                  have c59b0 : decide (0 ≤ 0) = true := decide_eq_true c59
                                                  clear c59
                                                  by_cases c60 : 0 < (t262.length : Int)
                                                  · rw [if_pos c60] at H
                                                    have c60b0 : decide (0 < (t262.length : Int)) = true := decide_eq_true c60
                                                    have c60b1 : decide (0 < t262.length) = true := decide_eq_true (by omega)
                                                    clear c60
                                                    by_cases c61 : (rd t262 0) ≤ x5_2
                                                    · rw [if_pos c61] at H
                                                      have c61b0 : decide ((rd t262 0) ≤ x5_2) = true := decide_eq_true c61
                                                      clear c61
                                                      obtain rfl := Option.some.inj H
                                                      obtain ⟨Ao62, co62, eo62⟩ := Kd.R_slice HO_10.out
                                                      subst eo62
                                                      have p268 : 0 ≤ (0 : Int) := (by omega)
                                                      have q268 : 0 < (t262.length : Int) := of_decide_eq_true (by first | (with_reducible assumption) | assumption)
                                                      obtain ⟨ad268, e268, hx268_0⟩ := Kd.at_int (Kd.R_reads' HO_10.out).2.2 0 p268 q268
                                                      cases e268
                                                      have qi268 : (0 < t262.length) = True := eq_true (by omega)
                                                      (try rw [show ((0 : Int)).toNat = 0 from rfl] at hx268_0)
                                                      (try rw [Addr.add_zero'] at hx268_0)
                                                      replace p268 := eq_true p268
                                                      replace q268 := eq_true q268
                                                      go_wp2
                                                      go_ret
                                                      exact ⟨by first | rfl | (simp [errW_none, errW_some] <;> rfl) | (simp [*, errW_none, errW_some] <;> rfl), by repeat (first | (with_reducible first | exact HB.out | apply below_alloc | apply pw_below_drewN | apply below_drew1 | refine below_set ?_ GE260.out) | exact HB.out)⟩
                                                    · rw [if_neg c61] at H
                                                      have c61b0 : decide ((rd t262 0) ≤ x5_2) = false := decide_eq_false c61
                                                      clear c61
                                                      have H' := Aside0.mk H
                                                      clear H
                                                      obtain ⟨Ao63, co63, eo63⟩ := Kd.R_slice HO_10.out
                                                      subst eo63
                                                      have p268 : 0 ≤ (0 : Int) := (by omega)
                                                      have q268 : 0 < (t262.length : Int) := of_decide_eq_true (by first | (with_reducible assumption) | assumption)
                                                      obtain ⟨ad268, e268, hx268_0⟩ := Kd.at_int (Kd.R_reads' HO_10.out).2.2 0 p268 q268
                                                      cases e268
                                                      have qi268 : (0 < t262.length) = True := eq_true (by omega)
                                                      (try rw [show ((0 : Int)).toNat = 0 from rfl] at hx268_0)
                                                      (try rw [Addr.add_zero'] at hx268_0)
                                                      replace p268 := eq_true p268
                                                      replace q268 := eq_true q268
                                                      have p269 : 0 ≤ (0 : Int) := (by omega)
                                                      have q269 : 0 < (t262.length : Int) := of_decide_eq_true (by first | (with_reducible assumption) | assumption)
                                                      obtain ⟨ad269, e269, hx269_0⟩ := Kd.at_int (Kd.R_reads' HO_10.out).2.2 0 p269 q269
                                                      obtain rfl : ad268 = ad269 := (by injection e269)
                                                      have qi269 : (0 < t262.length) = True := eq_true (by omega)
                                                      (try rw [show ((0 : Int)).toNat = 0 from rfl] at hx269_0)
                                                      (try rw [Addr.add_zero'] at hx269_0)
                                                      replace p269 := eq_true p269
                                                      replace q269 := eq_true q269
                                                      go_wp2
                                                      go_roundg kj47
                                                      case measure => have := HJ2.out; have := HK2.out; have := HJ16.out; have := HJ23.out; have := HJ29.out; have := HJ39.out; have := HJ41.out; have := HJ47.out; omega
                                                      case rel => exact ⟨(rd t262 0), (x6_41), (wrap64 (x7_2 + 1)), (by first | rfl | (simp; done) | (simp [*]; done)), (by first | rfl | (simp; done) | (simp [*]; done)), (by first | rfl | (simp; done) | (simp [*]; done)), H', ⟨by have := HJ2.out; have := HK2.out; have := HJ16.out; have := HJ23.out; have := HJ29.out; have := HJ39.out; have := HJ41.out; have := HJ47.out; omega⟩, ⟨by repeat (first | (with_reducible first | exact HB.out | apply below_alloc | apply pw_below_drewN | apply below_drew1 | refine below_set ?_ GE260.out) | exact HB.out)⟩⟩
                                                  · rw [if_neg c60] at H
                                                    exact absurd H (by simp)
                                                · rw [if_neg c59] at H
                                                  exact absurd H (by simp)
                    · rw [if_neg c22] at H
                      exact absurd H (by simp)
                  · rw [if_neg c21] at H
                    exact absurd H (by simp)

end Go.Proofs.Ytmjpibeiglicdaa.X
