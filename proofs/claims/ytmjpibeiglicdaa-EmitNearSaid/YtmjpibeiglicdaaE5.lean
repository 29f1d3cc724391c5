/- Functions of the program as plain Lean functions, and their contracts; written by a program out of the translation. -/
import Derived.Test.YtmjpibeiglicdaaE0
import Derived.Test.YtmjpibeiglicdaaE4
namespace Go.Proofs.Ytmjpibeiglicdaa.E
open Go.RowKit Go.Proofs.YtmjpibeiglicdaaU.PrintWords Go.Proofs.YtmjpibeiglicdaaU.PrintLast Go.Proofs.YtmjpibeiglicdaaU.PrintMore
attribute [local go_sem] max2_int min2_int max_two min_two max_three min_three max_four min_four   -- for this text's walks alone
set_option linter.unusedVariables false
set_option linter.unusedSimpArgs false

/-! ### tamislaw23_awake: function 49 -/
def tamislaw23_awake0.f (k : Nat)  : Option (Bool) := (tamislaw23_ret.f 7).bind fun bt142 => ((tamislaw23_ret.f 8).bind fun bt147 => ((some (([(⟨3, 21, 5, 1, 2⟩ : S40), (⟨4, 0, 0, 1, 0⟩ : S40), (⟨bt142.1, bt142.2.1, bt142.2.2.1, bt142.2.2.2.1, bt142.2.2.2.2⟩ : S40), (⟨4, 0, 0, 2, 0⟩ : S40), (⟨bt147.1, bt147.2.1, bt147.2.2.1, bt147.2.2.2.1, bt147.2.2.2.2⟩ : S40)] : List (S40)) : List (S40))).bind fun y152 => ((emit_Emit.f k y152).bind fun bt155 => ((emit_Size.f k y152).bind fun bt159 => (if 3 ≤ (y152.length : Int) then ((emit_Check.f (y152.take 3)).bind fun bt165 => ((tamislaw23_ret.f 1).bind fun bt167 => ((emit_Check.f (([(⟨bt167.1, bt167.2.1, bt167.2.2.1, bt167.2.2.2.1, bt167.2.2.2.2⟩ : S40), (⟨4, 0, 0, 0, 0⟩ : S40)] : List (S40)))).bind fun bt175 => ((emit_Emit.f k ([] : List (S40))).bind fun bt177 => ((emit_Long.f k y152).bind fun bt181 => ((emit_Emit.f k (([(⟨5, 0, 0, 0, 0⟩ : S40)] : List (S40)))).bind fun bt188 => ((tamisref02_Same.f k bt155.1 (([(⟨21, 0, 1, 5⟩ : S56), (⟨6, 0, 0, 7⟩ : S56), (⟨6, 0, 0, 8⟩ : S56)] : List (S56)))).bind fun t195 => (if t195 = true then (if bt155.2 = 0 then (if bt159.1 = 3 then (if bt159.2 = 0 then (if bt165.1 = 0 then (if bt165.2 = 15 then (if bt175.1 = 1 then (if bt175.2 = 12 then (if bt177.2 = 4 then (if (bt181.1.length : Int) = 5 then (if 0 < (bt181.1.length : Int) then (if rdOf false bt181.1 0 = true then (some false) else (if bt181.2 = 0 then (some (bt188.2 == 3)) else (some false))) else (none)) else (some false)) else (some false)) else (some false)) else (some false)) else (some false)) else (some false)) else (some false)) else (some false)) else (some false)) else (some false))))))))) else (none))))))
set_option maxHeartbeats 8000000 in
set_option maxRecDepth 100000 in
theorem tamislaw23_awake0.calls (k : Nat)  (r : Bool) (hr_ : r = true) (w : World) (h : tamislaw23_awake0.f k  = some r) :
    Calls Try.prog 49 #[] w fun e w' => e = .returned (.bool r) ∧ Below w.heap.size w w' := by
  subst hr_
  have hu40 := Try.underlying40
  have hu56 := Try.underlying56
  have HB := Aside0.mk (Below.refl w.heap.size w)
  have H : ((tamislaw23_ret.f 7).bind fun bt142 => ((tamislaw23_ret.f 8).bind fun bt147 => ((some (([(⟨3, 21, 5, 1, 2⟩ : S40), (⟨4, 0, 0, 1, 0⟩ : S40), (⟨bt142.1, bt142.2.1, bt142.2.2.1, bt142.2.2.2.1, bt142.2.2.2.2⟩ : S40), (⟨4, 0, 0, 2, 0⟩ : S40), (⟨bt147.1, bt147.2.1, bt147.2.2.1, bt147.2.2.2.1, bt147.2.2.2.2⟩ : S40)] : List (S40)) : List (S40))).bind fun y152 => ((emit_Emit.f k y152).bind fun bt155 => ((emit_Size.f k y152).bind fun bt159 => (if 3 ≤ (y152.length : Int) then ((emit_Check.f (y152.take 3)).bind fun bt165 => ((tamislaw23_ret.f 1).bind fun bt167 => ((emit_Check.f (([(⟨bt167.1, bt167.2.1, bt167.2.2.1, bt167.2.2.2.1, bt167.2.2.2.2⟩ : S40), (⟨4, 0, 0, 0, 0⟩ : S40)] : List (S40)))).bind fun bt175 => ((emit_Emit.f k ([] : List (S40))).bind fun bt177 => ((emit_Long.f k y152).bind fun bt181 => ((emit_Emit.f k (([(⟨5, 0, 0, 0, 0⟩ : S40)] : List (S40)))).bind fun bt188 => ((tamisref02_Same.f k bt155.1 (([(⟨21, 0, 1, 5⟩ : S56), (⟨6, 0, 0, 7⟩ : S56), (⟨6, 0, 0, 8⟩ : S56)] : List (S56)))).bind fun t195 => (if t195 = true then (if bt155.2 = 0 then (if bt159.1 = 3 then (if bt159.2 = 0 then (if bt165.1 = 0 then (if bt165.2 = 15 then (if bt175.1 = 1 then (if bt175.2 = 12 then (if bt177.2 = 4 then (if (bt181.1.length : Int) = 5 then (if 0 < (bt181.1.length : Int) then (if rdOf false bt181.1 0 = true then (some false) else (if bt181.2 = 0 then (some (bt188.2 == 3)) else (some false))) else (none)) else (some false)) else (some false)) else (some false)) else (some false)) else (some false)) else (some false)) else (some false)) else (some false)) else (some false)) else (some false))))))))) else (none))))))) = some true := h
  clear h
  replace H := Option.bind_eq_some_iff.mp H
  obtain ⟨⟨t142, t143, t144, t145, t146⟩, A10, H⟩ := H
  replace H : ((tamislaw23_ret.f 8).bind fun bt147 => ((some (([(⟨3, 21, 5, 1, 2⟩ : S40), (⟨4, 0, 0, 1, 0⟩ : S40), (⟨t142, t143, t144, t145, t146⟩ : S40), (⟨4, 0, 0, 2, 0⟩ : S40), (⟨bt147.1, bt147.2.1, bt147.2.2.1, bt147.2.2.2.1, bt147.2.2.2.2⟩ : S40)] : List (S40)) : List (S40))).bind fun y152 => ((emit_Emit.f k y152).bind fun bt155 => ((emit_Size.f k y152).bind fun bt159 => (if 3 ≤ (y152.length : Int) then ((emit_Check.f (y152.take 3)).bind fun bt165 => ((tamislaw23_ret.f 1).bind fun bt167 => ((emit_Check.f (([(⟨bt167.1, bt167.2.1, bt167.2.2.1, bt167.2.2.2.1, bt167.2.2.2.2⟩ : S40), (⟨4, 0, 0, 0, 0⟩ : S40)] : List (S40)))).bind fun bt175 => ((emit_Emit.f k ([] : List (S40))).bind fun bt177 => ((emit_Long.f k y152).bind fun bt181 => ((emit_Emit.f k (([(⟨5, 0, 0, 0, 0⟩ : S40)] : List (S40)))).bind fun bt188 => ((tamisref02_Same.f k bt155.1 (([(⟨21, 0, 1, 5⟩ : S56), (⟨6, 0, 0, 7⟩ : S56), (⟨6, 0, 0, 8⟩ : S56)] : List (S56)))).bind fun t195 => (if t195 = true then (if bt155.2 = 0 then (if bt159.1 = 3 then (if bt159.2 = 0 then (if bt165.1 = 0 then (if bt165.2 = 15 then (if bt175.1 = 1 then (if bt175.2 = 12 then (if bt177.2 = 4 then (if (bt181.1.length : Int) = 5 then (if 0 < (bt181.1.length : Int) then (if rdOf false bt181.1 0 = true then (some false) else (if bt181.2 = 0 then (some (bt188.2 == 3)) else (some false))) else (none)) else (some false)) else (some false)) else (some false)) else (some false)) else (some false)) else (some false)) else (some false)) else (some false)) else (some false)) else (some false))))))))) else (none)))))) = some true := H
  have A1 := Aside0.mk A10
  clear A10
  replace H := Option.bind_eq_some_iff.mp H
  obtain ⟨⟨t147, t148, t149, t150, t151⟩, A20, H⟩ := H
  replace H : ((some (([(⟨3, 21, 5, 1, 2⟩ : S40), (⟨4, 0, 0, 1, 0⟩ : S40), (⟨t142, t143, t144, t145, t146⟩ : S40), (⟨4, 0, 0, 2, 0⟩ : S40), (⟨t147, t148, t149, t150, t151⟩ : S40)] : List (S40)) : List (S40))).bind fun y152 => ((emit_Emit.f k y152).bind fun bt155 => ((emit_Size.f k y152).bind fun bt159 => (if 3 ≤ (y152.length : Int) then ((emit_Check.f (y152.take 3)).bind fun bt165 => ((tamislaw23_ret.f 1).bind fun bt167 => ((emit_Check.f (([(⟨bt167.1, bt167.2.1, bt167.2.2.1, bt167.2.2.2.1, bt167.2.2.2.2⟩ : S40), (⟨4, 0, 0, 0, 0⟩ : S40)] : List (S40)))).bind fun bt175 => ((emit_Emit.f k ([] : List (S40))).bind fun bt177 => ((emit_Long.f k y152).bind fun bt181 => ((emit_Emit.f k (([(⟨5, 0, 0, 0, 0⟩ : S40)] : List (S40)))).bind fun bt188 => ((tamisref02_Same.f k bt155.1 (([(⟨21, 0, 1, 5⟩ : S56), (⟨6, 0, 0, 7⟩ : S56), (⟨6, 0, 0, 8⟩ : S56)] : List (S56)))).bind fun t195 => (if t195 = true then (if bt155.2 = 0 then (if bt159.1 = 3 then (if bt159.2 = 0 then (if bt165.1 = 0 then (if bt165.2 = 15 then (if bt175.1 = 1 then (if bt175.2 = 12 then (if bt177.2 = 4 then (if (bt181.1.length : Int) = 5 then (if 0 < (bt181.1.length : Int) then (if rdOf false bt181.1 0 = true then (some false) else (if bt181.2 = 0 then (some (bt188.2 == 3)) else (some false))) else (none)) else (some false)) else (some false)) else (some false)) else (some false)) else (some false)) else (some false)) else (some false)) else (some false)) else (some false)) else (some false))))))))) else (none))))) = some true := H
  have A2 := Aside0.mk A20
  clear A20
  obtain ⟨y152, hy152⟩ : ∃ y_ : List (S40), y_ = (([(⟨3, 21, 5, 1, 2⟩ : S40), (⟨4, 0, 0, 1, 0⟩ : S40), (⟨t142, t143, t144, t145, t146⟩ : S40), (⟨4, 0, 0, 2, 0⟩ : S40), (⟨t147, t148, t149, t150, t151⟩ : S40)] : List (S40))) := ⟨_, rfl⟩
  replace H : ((emit_Emit.f k y152).bind fun bt155 => ((emit_Size.f k y152).bind fun bt159 => (if 3 ≤ (y152.length : Int) then ((emit_Check.f (y152.take 3)).bind fun bt165 => ((tamislaw23_ret.f 1).bind fun bt167 => ((emit_Check.f (([(⟨bt167.1, bt167.2.1, bt167.2.2.1, bt167.2.2.2.1, bt167.2.2.2.2⟩ : S40), (⟨4, 0, 0, 0, 0⟩ : S40)] : List (S40)))).bind fun bt175 => ((emit_Emit.f k ([] : List (S40))).bind fun bt177 => ((emit_Long.f k y152).bind fun bt181 => ((emit_Emit.f k (([(⟨5, 0, 0, 0, 0⟩ : S40)] : List (S40)))).bind fun bt188 => ((tamisref02_Same.f k bt155.1 (([(⟨21, 0, 1, 5⟩ : S56), (⟨6, 0, 0, 7⟩ : S56), (⟨6, 0, 0, 8⟩ : S56)] : List (S56)))).bind fun t195 => (if t195 = true then (if bt155.2 = 0 then (if bt159.1 = 3 then (if bt159.2 = 0 then (if bt165.1 = 0 then (if bt165.2 = 15 then (if bt175.1 = 1 then (if bt175.2 = 12 then (if bt177.2 = 4 then (if (bt181.1.length : Int) = 5 then (if 0 < (bt181.1.length : Int) then (if rdOf false bt181.1 0 = true then (some false) else (if bt181.2 = 0 then (some (bt188.2 == 3)) else (some false))) else (none)) else (some false)) else (some false)) else (some false)) else (some false)) else (some false)) else (some false)) else (some false)) else (some false)) else (some false)) else (some false))))))))) else (none)))) = some true := by first | (rw [hy152]; with_reducible exact H) | (have H2_ := (Option.bind_some _ _).symm.trans H; rw [hy152]; with_reducible exact H2_) | (have H2_ := (Option.bind_some _ _).symm.trans H; with_reducible exact H2_) | with_reducible exact H | (rw [hy152]; exact H) | exact H
  have Ny152 := Aside0.mk hy152
  clear hy152
  replace H := Option.bind_eq_some_iff.mp H
  obtain ⟨⟨t155, t156⟩, A30, H⟩ := H
  replace H : ((emit_Size.f k y152).bind fun bt159 => (if 3 ≤ (y152.length : Int) then ((emit_Check.f (y152.take 3)).bind fun bt165 => ((tamislaw23_ret.f 1).bind fun bt167 => ((emit_Check.f (([(⟨bt167.1, bt167.2.1, bt167.2.2.1, bt167.2.2.2.1, bt167.2.2.2.2⟩ : S40), (⟨4, 0, 0, 0, 0⟩ : S40)] : List (S40)))).bind fun bt175 => ((emit_Emit.f k ([] : List (S40))).bind fun bt177 => ((emit_Long.f k y152).bind fun bt181 => ((emit_Emit.f k (([(⟨5, 0, 0, 0, 0⟩ : S40)] : List (S40)))).bind fun bt188 => ((tamisref02_Same.f k t155 (([(⟨21, 0, 1, 5⟩ : S56), (⟨6, 0, 0, 7⟩ : S56), (⟨6, 0, 0, 8⟩ : S56)] : List (S56)))).bind fun t195 => (if t195 = true then (if t156 = 0 then (if bt159.1 = 3 then (if bt159.2 = 0 then (if bt165.1 = 0 then (if bt165.2 = 15 then (if bt175.1 = 1 then (if bt175.2 = 12 then (if bt177.2 = 4 then (if (bt181.1.length : Int) = 5 then (if 0 < (bt181.1.length : Int) then (if rdOf false bt181.1 0 = true then (some false) else (if bt181.2 = 0 then (some (bt188.2 == 3)) else (some false))) else (none)) else (some false)) else (some false)) else (some false)) else (some false)) else (some false)) else (some false)) else (some false)) else (some false)) else (some false)) else (some false))))))))) else (none))) = some true := H
  have A3 := Aside0.mk A30
  clear A30
  replace H := Option.bind_eq_some_iff.mp H
  obtain ⟨⟨t159, t160⟩, A40, H⟩ := H
  replace H : (if 3 ≤ (y152.length : Int) then ((emit_Check.f (y152.take 3)).bind fun bt165 => ((tamislaw23_ret.f 1).bind fun bt167 => ((emit_Check.f (([(⟨bt167.1, bt167.2.1, bt167.2.2.1, bt167.2.2.2.1, bt167.2.2.2.2⟩ : S40), (⟨4, 0, 0, 0, 0⟩ : S40)] : List (S40)))).bind fun bt175 => ((emit_Emit.f k ([] : List (S40))).bind fun bt177 => ((emit_Long.f k y152).bind fun bt181 => ((emit_Emit.f k (([(⟨5, 0, 0, 0, 0⟩ : S40)] : List (S40)))).bind fun bt188 => ((tamisref02_Same.f k t155 (([(⟨21, 0, 1, 5⟩ : S56), (⟨6, 0, 0, 7⟩ : S56), (⟨6, 0, 0, 8⟩ : S56)] : List (S56)))).bind fun t195 => (if t195 = true then (if t156 = 0 then (if t159 = 3 then (if t160 = 0 then (if bt165.1 = 0 then (if bt165.2 = 15 then (if bt175.1 = 1 then (if bt175.2 = 12 then (if bt177.2 = 4 then (if (bt181.1.length : Int) = 5 then (if 0 < (bt181.1.length : Int) then (if rdOf false bt181.1 0 = true then (some false) else (if bt181.2 = 0 then (some (bt188.2 == 3)) else (some false))) else (none)) else (some false)) else (some false)) else (some false)) else (some false)) else (some false)) else (some false)) else (some false)) else (some false)) else (some false)) else (some false))))))))) else (none)) = some true := H
  have A4 := Aside0.mk A40
  clear A40
  by_cases c5 : 3 ≤ (y152.length : Int)
  · rw [if_pos c5] at H
    have c5b0 := eq_true c5
    have c5b1 : decide (3 ≤ (y152.length : Int)) = true := decide_eq_true c5
    clear c5
    obtain ⟨y161, hy161⟩ : ∃ y_ : List (S40), y_ = (y152.take 3) := ⟨_, rfl⟩
    replace H : ((emit_Check.f y161).bind fun bt165 => ((tamislaw23_ret.f 1).bind fun bt167 => ((emit_Check.f (([(⟨bt167.1, bt167.2.1, bt167.2.2.1, bt167.2.2.2.1, bt167.2.2.2.2⟩ : S40), (⟨4, 0, 0, 0, 0⟩ : S40)] : List (S40)))).bind fun bt175 => ((emit_Emit.f k ([] : List (S40))).bind fun bt177 => ((emit_Long.f k y152).bind fun bt181 => ((emit_Emit.f k (([(⟨5, 0, 0, 0, 0⟩ : S40)] : List (S40)))).bind fun bt188 => ((tamisref02_Same.f k t155 (([(⟨21, 0, 1, 5⟩ : S56), (⟨6, 0, 0, 7⟩ : S56), (⟨6, 0, 0, 8⟩ : S56)] : List (S56)))).bind fun t195 => (if t195 = true then (if t156 = 0 then (if t159 = 3 then (if t160 = 0 then (if bt165.1 = 0 then (if bt165.2 = 15 then (if bt175.1 = 1 then (if bt175.2 = 12 then (if bt177.2 = 4 then (if (bt181.1.length : Int) = 5 then (if 0 < (bt181.1.length : Int) then (if rdOf false bt181.1 0 = true then (some false) else (if bt181.2 = 0 then (some (bt188.2 == 3)) else (some false))) else (none)) else (some false)) else (some false)) else (some false)) else (some false)) else (some false)) else (some false)) else (some false)) else (some false)) else (some false)) else (some false))))))))) = some true := by first | (rw [hy161]; with_reducible exact H) | (have H2_ := (Option.bind_some _ _).symm.trans H; rw [hy161]; with_reducible exact H2_) | (have H2_ := (Option.bind_some _ _).symm.trans H; with_reducible exact H2_) | with_reducible exact H | (rw [hy161]; exact H) | exact H
    have Ny161 := Aside0.mk hy161
    clear hy161
    replace H := Option.bind_eq_some_iff.mp H
    obtain ⟨⟨t165, t166⟩, A60, H⟩ := H
    replace H : ((tamislaw23_ret.f 1).bind fun bt167 => ((emit_Check.f (([(⟨bt167.1, bt167.2.1, bt167.2.2.1, bt167.2.2.2.1, bt167.2.2.2.2⟩ : S40), (⟨4, 0, 0, 0, 0⟩ : S40)] : List (S40)))).bind fun bt175 => ((emit_Emit.f k ([] : List (S40))).bind fun bt177 => ((emit_Long.f k y152).bind fun bt181 => ((emit_Emit.f k (([(⟨5, 0, 0, 0, 0⟩ : S40)] : List (S40)))).bind fun bt188 => ((tamisref02_Same.f k t155 (([(⟨21, 0, 1, 5⟩ : S56), (⟨6, 0, 0, 7⟩ : S56), (⟨6, 0, 0, 8⟩ : S56)] : List (S56)))).bind fun t195 => (if t195 = true then (if t156 = 0 then (if t159 = 3 then (if t160 = 0 then (if t165 = 0 then (if t166 = 15 then (if bt175.1 = 1 then (if bt175.2 = 12 then (if bt177.2 = 4 then (if (bt181.1.length : Int) = 5 then (if 0 < (bt181.1.length : Int) then (if rdOf false bt181.1 0 = true then (some false) else (if bt181.2 = 0 then (some (bt188.2 == 3)) else (some false))) else (none)) else (some false)) else (some false)) else (some false)) else (some false)) else (some false)) else (some false)) else (some false)) else (some false)) else (some false)) else (some false)))))))) = some true := H
    have A6 := Aside0.mk A60
    clear A60
    replace H := Option.bind_eq_some_iff.mp H
    obtain ⟨⟨t167, t168, t169, t170, t171⟩, A70, H⟩ := H
    replace H : ((emit_Check.f (([(⟨t167, t168, t169, t170, t171⟩ : S40), (⟨4, 0, 0, 0, 0⟩ : S40)] : List (S40)))).bind fun bt175 => ((emit_Emit.f k ([] : List (S40))).bind fun bt177 => ((emit_Long.f k y152).bind fun bt181 => ((emit_Emit.f k (([(⟨5, 0, 0, 0, 0⟩ : S40)] : List (S40)))).bind fun bt188 => ((tamisref02_Same.f k t155 (([(⟨21, 0, 1, 5⟩ : S56), (⟨6, 0, 0, 7⟩ : S56), (⟨6, 0, 0, 8⟩ : S56)] : List (S56)))).bind fun t195 => (if t195 = true then (if t156 = 0 then (if t159 = 3 then (if t160 = 0 then (if t165 = 0 then (if t166 = 15 then (if bt175.1 = 1 then (if bt175.2 = 12 then (if bt177.2 = 4 then (if (bt181.1.length : Int) = 5 then (if 0 < (bt181.1.length : Int) then (if rdOf false bt181.1 0 = true then (some false) else (if bt181.2 = 0 then (some (bt188.2 == 3)) else (some false))) else (none)) else (some false)) else (some false)) else (some false)) else (some false)) else (some false)) else (some false)) else (some false)) else (some false)) else (some false)) else (some false))))))) = some true := H
    have A7 := Aside0.mk A70
    clear A70
    obtain ⟨y172, hy172⟩ : ∃ y_ : List (S40), y_ = (([(⟨t167, t168, t169, t170, t171⟩ : S40), (⟨4, 0, 0, 0, 0⟩ : S40)] : List (S40))) := ⟨_, rfl⟩
    replace H : ((emit_Check.f y172).bind fun bt175 => ((emit_Emit.f k ([] : List (S40))).bind fun bt177 => ((emit_Long.f k y152).bind fun bt181 => ((emit_Emit.f k (([(⟨5, 0, 0, 0, 0⟩ : S40)] : List (S40)))).bind fun bt188 => ((tamisref02_Same.f k t155 (([(⟨21, 0, 1, 5⟩ : S56), (⟨6, 0, 0, 7⟩ : S56), (⟨6, 0, 0, 8⟩ : S56)] : List (S56)))).bind fun t195 => (if t195 = true then (if t156 = 0 then (if t159 = 3 then (if t160 = 0 then (if t165 = 0 then (if t166 = 15 then (if bt175.1 = 1 then (if bt175.2 = 12 then (if bt177.2 = 4 then (if (bt181.1.length : Int) = 5 then (if 0 < (bt181.1.length : Int) then (if rdOf false bt181.1 0 = true then (some false) else (if bt181.2 = 0 then (some (bt188.2 == 3)) else (some false))) else (none)) else (some false)) else (some false)) else (some false)) else (some false)) else (some false)) else (some false)) else (some false)) else (some false)) else (some false)) else (some false))))))) = some true := by first | (rw [hy172]; with_reducible exact H) | (have H2_ := (Option.bind_some _ _).symm.trans H; rw [hy172]; with_reducible exact H2_) | (have H2_ := (Option.bind_some _ _).symm.trans H; with_reducible exact H2_) | with_reducible exact H | (rw [hy172]; exact H) | exact H
    have Ny172 := Aside0.mk hy172
    clear hy172
    replace H := Option.bind_eq_some_iff.mp H
    obtain ⟨⟨t175, t176⟩, A80, H⟩ := H
    replace H : ((emit_Emit.f k ([] : List (S40))).bind fun bt177 => ((emit_Long.f k y152).bind fun bt181 => ((emit_Emit.f k (([(⟨5, 0, 0, 0, 0⟩ : S40)] : List (S40)))).bind fun bt188 => ((tamisref02_Same.f k t155 (([(⟨21, 0, 1, 5⟩ : S56), (⟨6, 0, 0, 7⟩ : S56), (⟨6, 0, 0, 8⟩ : S56)] : List (S56)))).bind fun t195 => (if t195 = true then (if t156 = 0 then (if t159 = 3 then (if t160 = 0 then (if t165 = 0 then (if t166 = 15 then (if t175 = 1 then (if t176 = 12 then (if bt177.2 = 4 then (if (bt181.1.length : Int) = 5 then (if 0 < (bt181.1.length : Int) then (if rdOf false bt181.1 0 = true then (some false) else (if bt181.2 = 0 then (some (bt188.2 == 3)) else (some false))) else (none)) else (some false)) else (some false)) else (some false)) else (some false)) else (some false)) else (some false)) else (some false)) else (some false)) else (some false)) else (some false)))))) = some true := H
    have A8 := Aside0.mk A80
    clear A80
    replace H := Option.bind_eq_some_iff.mp H
    obtain ⟨⟨t177, t178⟩, A90, H⟩ := H
    replace H : ((emit_Long.f k y152).bind fun bt181 => ((emit_Emit.f k (([(⟨5, 0, 0, 0, 0⟩ : S40)] : List (S40)))).bind fun bt188 => ((tamisref02_Same.f k t155 (([(⟨21, 0, 1, 5⟩ : S56), (⟨6, 0, 0, 7⟩ : S56), (⟨6, 0, 0, 8⟩ : S56)] : List (S56)))).bind fun t195 => (if t195 = true then (if t156 = 0 then (if t159 = 3 then (if t160 = 0 then (if t165 = 0 then (if t166 = 15 then (if t175 = 1 then (if t176 = 12 then (if t178 = 4 then (if (bt181.1.length : Int) = 5 then (if 0 < (bt181.1.length : Int) then (if rdOf false bt181.1 0 = true then (some false) else (if bt181.2 = 0 then (some (bt188.2 == 3)) else (some false))) else (none)) else (some false)) else (some false)) else (some false)) else (some false)) else (some false)) else (some false)) else (some false)) else (some false)) else (some false)) else (some false))))) = some true := H
    have A9 := Aside0.mk A90
    clear A90
    replace H := Option.bind_eq_some_iff.mp H
    obtain ⟨⟨t181, t182⟩, A100, H⟩ := H
    replace H : ((emit_Emit.f k (([(⟨5, 0, 0, 0, 0⟩ : S40)] : List (S40)))).bind fun bt188 => ((tamisref02_Same.f k t155 (([(⟨21, 0, 1, 5⟩ : S56), (⟨6, 0, 0, 7⟩ : S56), (⟨6, 0, 0, 8⟩ : S56)] : List (S56)))).bind fun t195 => (if t195 = true then (if t156 = 0 then (if t159 = 3 then (if t160 = 0 then (if t165 = 0 then (if t166 = 15 then (if t175 = 1 then (if t176 = 12 then (if t178 = 4 then (if (t181.length : Int) = 5 then (if 0 < (t181.length : Int) then (if rdOf false t181 0 = true then (some false) else (if t182 = 0 then (some (bt188.2 == 3)) else (some false))) else (none)) else (some false)) else (some false)) else (some false)) else (some false)) else (some false)) else (some false)) else (some false)) else (some false)) else (some false)) else (some false)))) = some true := H
    have A10 := Aside0.mk A100
    clear A100
    obtain ⟨y185, hy185⟩ : ∃ y_ : List (S40), y_ = (([(⟨5, 0, 0, 0, 0⟩ : S40)] : List (S40))) := ⟨_, rfl⟩
    replace H : ((emit_Emit.f k y185).bind fun bt188 => ((tamisref02_Same.f k t155 (([(⟨21, 0, 1, 5⟩ : S56), (⟨6, 0, 0, 7⟩ : S56), (⟨6, 0, 0, 8⟩ : S56)] : List (S56)))).bind fun t195 => (if t195 = true then (if t156 = 0 then (if t159 = 3 then (if t160 = 0 then (if t165 = 0 then (if t166 = 15 then (if t175 = 1 then (if t176 = 12 then (if t178 = 4 then (if (t181.length : Int) = 5 then (if 0 < (t181.length : Int) then (if rdOf false t181 0 = true then (some false) else (if t182 = 0 then (some (bt188.2 == 3)) else (some false))) else (none)) else (some false)) else (some false)) else (some false)) else (some false)) else (some false)) else (some false)) else (some false)) else (some false)) else (some false)) else (some false)))) = some true := by first | (rw [hy185]; with_reducible exact H) | (have H2_ := (Option.bind_some _ _).symm.trans H; rw [hy185]; with_reducible exact H2_) | (have H2_ := (Option.bind_some _ _).symm.trans H; with_reducible exact H2_) | with_reducible exact H | (rw [hy185]; exact H) | exact H
    have Ny185 := Aside0.mk hy185
    clear hy185
    replace H := Option.bind_eq_some_iff.mp H
    obtain ⟨⟨t188, t189⟩, A110, H⟩ := H
    replace H : ((tamisref02_Same.f k t155 (([(⟨21, 0, 1, 5⟩ : S56), (⟨6, 0, 0, 7⟩ : S56), (⟨6, 0, 0, 8⟩ : S56)] : List (S56)))).bind fun t195 => (if t195 = true then (if t156 = 0 then (if t159 = 3 then (if t160 = 0 then (if t165 = 0 then (if t166 = 15 then (if t175 = 1 then (if t176 = 12 then (if t178 = 4 then (if (t181.length : Int) = 5 then (if 0 < (t181.length : Int) then (if rdOf false t181 0 = true then (some false) else (if t182 = 0 then (some (t189 == 3)) else (some false))) else (none)) else (some false)) else (some false)) else (some false)) else (some false)) else (some false)) else (some false)) else (some false)) else (some false)) else (some false)) else (some false))) = some true := H
    have A11 := Aside0.mk A110
    clear A110
    obtain ⟨y192, hy192⟩ : ∃ y_ : List (S56), y_ = (([(⟨21, 0, 1, 5⟩ : S56), (⟨6, 0, 0, 7⟩ : S56), (⟨6, 0, 0, 8⟩ : S56)] : List (S56))) := ⟨_, rfl⟩
    replace H : ((tamisref02_Same.f k t155 y192).bind fun t195 => (if t195 = true then (if t156 = 0 then (if t159 = 3 then (if t160 = 0 then (if t165 = 0 then (if t166 = 15 then (if t175 = 1 then (if t176 = 12 then (if t178 = 4 then (if (t181.length : Int) = 5 then (if 0 < (t181.length : Int) then (if rdOf false t181 0 = true then (some false) else (if t182 = 0 then (some (t189 == 3)) else (some false))) else (none)) else (some false)) else (some false)) else (some false)) else (some false)) else (some false)) else (some false)) else (some false)) else (some false)) else (some false)) else (some false))) = some true := by first | (rw [hy192]; with_reducible exact H) | (have H2_ := (Option.bind_some _ _).symm.trans H; rw [hy192]; with_reducible exact H2_) | (have H2_ := (Option.bind_some _ _).symm.trans H; with_reducible exact H2_) | with_reducible exact H | (rw [hy192]; exact H) | exact H
    have Ny192 := Aside0.mk hy192
    clear hy192
    replace H := Option.bind_eq_some_iff.mp H
    obtain ⟨t195, A120, H⟩ := H
    replace H : (if t195 = true then (if t156 = 0 then (if t159 = 3 then (if t160 = 0 then (if t165 = 0 then (if t166 = 15 then (if t175 = 1 then (if t176 = 12 then (if t178 = 4 then (if (t181.length : Int) = 5 then (if 0 < (t181.length : Int) then (if rdOf false t181 0 = true then (some false) else (if t182 = 0 then (some (t189 == 3)) else (some false))) else (none)) else (some false)) else (some false)) else (some false)) else (some false)) else (some false)) else (some false)) else (some false)) else (some false)) else (some false)) else (some false)) = some true := H
    have A12 := Aside0.mk A120
    clear A120
    by_cases c13 : t195 = true
    · subst c13
      have H1 : (if t156 = 0 then (if t159 = 3 then (if t160 = 0 then (if t165 = 0 then (if t166 = 15 then (if t175 = 1 then (if t176 = 12 then (if t178 = 4 then (if (t181.length : Int) = 5 then (if 0 < (t181.length : Int) then (if rdOf false t181 0 = true then (some false) else (if t182 = 0 then (some (t189 == 3)) else (some false))) else (none)) else (some false)) else (some false)) else (some false)) else (some false)) else (some false)) else (some false)) else (some false)) else (some false)) else (some false)) = some true := by rw [if_pos rfl] at H; exact H
      clear H
      have H := H1
      clear H1
      by_cases c14 : t156 = 0
      · rw [if_pos c14] at H
        have c14b0 : (t156 == 0) = true := beq_iff_eq.mpr c14
        have c14b1 : (t156 != 0) = false := bne_eq_false_iff_eq.mpr c14
        clear c14
        by_cases c15 : t159 = 3
        · rw [if_pos c15] at H
          have c15b0 : (t159 == 3) = true := beq_iff_eq.mpr c15
          have c15b1 : (t159 != 3) = false := bne_eq_false_iff_eq.mpr c15
          clear c15
          by_cases c16 : t160 = 0
          · rw [if_pos c16] at H
            have c16b0 : (t160 == 0) = true := beq_iff_eq.mpr c16
            have c16b1 : (t160 != 0) = false := bne_eq_false_iff_eq.mpr c16
            clear c16
            by_cases c17 : t165 = 0
            · rw [if_pos c17] at H
              have c17b0 : (t165 == 0) = true := beq_iff_eq.mpr c17
              have c17b1 : (t165 != 0) = false := bne_eq_false_iff_eq.mpr c17
              clear c17
              by_cases c18 : t166 = 15
              · rw [if_pos c18] at H
                have c18b0 : (t166 == 15) = true := beq_iff_eq.mpr c18
                have c18b1 : (t166 != 15) = false := bne_eq_false_iff_eq.mpr c18
                clear c18
                by_cases c19 : t175 = 1
                · rw [if_pos c19] at H
                  have c19b0 : (t175 == 1) = true := beq_iff_eq.mpr c19
                  have c19b1 : (t175 != 1) = false := bne_eq_false_iff_eq.mpr c19
                  clear c19
                  by_cases c20 : t176 = 12
                  · rw [if_pos c20] at H
                    have c20b0 : (t176 == 12) = true := beq_iff_eq.mpr c20
                    have c20b1 : (t176 != 12) = false := bne_eq_false_iff_eq.mpr c20
                    clear c20
                    by_cases c21 : t178 = 4
                    · rw [if_pos c21] at H
                      have c21b0 : (t178 == 4) = true := beq_iff_eq.mpr c21
                      have c21b1 : (t178 != 4) = false := bne_eq_false_iff_eq.mpr c21
                      clear c21
                      by_cases c22 : (t181.length : Int) = 5
                      · rw [if_pos c22] at H
                        have c22b0 : ((t181.length : Int) == 5) = true := beq_iff_eq.mpr c22
                        have c22b1 : ((t181.length : Int) != 5) = false := bne_eq_false_iff_eq.mpr c22
                        clear c22
                        by_cases c23 : 0 < (t181.length : Int)
                        · rw [if_pos c23] at H
                          have c23b0 : decide (0 < (t181.length : Int)) = true := decide_eq_true c23
                          have c23b1 : decide (0 < t181.length) = true := decide_eq_true (by omega)
                          clear c23
                          obtain ⟨bq24, hbq24⟩ : ∃ b_ : Bool, b_ = (rdOf false t181 0) := ⟨_, rfl⟩
                          replace H : (if bq24 = true then (some false) else (if t182 = 0 then (some (t189 == 3)) else (some false))) = some true := by rw [← hbq24] at H; exact H
                          have Nbq24 := Aside0.mk hbq24
                          clear hbq24
                          by_cases c25 : bq24 = true
                          · subst c25
                            have H1 : (some false) = some true := by rw [if_pos rfl] at H; exact H
                            clear H
                            have H := H1
                            clear H1
                            exact absurd (Option.some.inj H) (by decide)
                          · replace c25 := Bool.eq_false_iff.mpr c25
                            subst c25
                            have H1 : (if t182 = 0 then (some (t189 == 3)) else (some false)) = some true := by rw [if_neg (show ¬ (false = true) by decide)] at H; exact H
                            clear H
                            have H := H1
                            clear H1
                            by_cases c51 : t182 = 0
                            · rw [if_pos c51] at H
                              have c51b0 : (t182 == 0) = true := beq_iff_eq.mpr c51
                              have c51b1 : (t182 != 0) = false := bne_eq_false_iff_eq.mpr c51
                              clear c51
                              have hr9_ := Option.some.inj H
                              go_enter Try.func49, Try.ntmps49
                              go_wp2_with (first | ((with_reducible refine gate_callee (f := 85) rfl ?_); refine goesL_ (some 18) rfl rfl Try.func85 (by kernel_rfl) rfl #[.int .u32 7] rfl (by (try simp only [List.map_toArray, List.map_cons, List.map_nil]); first | done | rfl | (simp only [List.length_drop, List.length_take]; rfl)) ?_; (with_reducible refine (tamislaw23_ret.calls 7 t142 t143 t144 t145 t146 _ A1.out).mono ?_); rintro e w52 ⟨rfl, hb⟩; refine ⟨_, rfl, ?_⟩; have n0_ := Aside0.mk (below_step (by repeat (first | (with_reducible first | exact HB.out | apply below_alloc | apply pw_below_drewN | apply below_drew1) | exact HB.out)) hb); clear HB; have HB := n0_; clear n0_; (try clear hb); (try clear hb2); (try clear hk); (try clear hi)) | ((with_reducible refine gate_callee (f := 85) rfl ?_); refine goesL_ (some 20) rfl rfl Try.func85 (by kernel_rfl) rfl #[.int .u32 8] rfl (by (try simp only [List.map_toArray, List.map_cons, List.map_nil]); first | done | rfl | (simp only [List.length_drop, List.length_take]; rfl)) ?_; (with_reducible refine (tamislaw23_ret.calls 8 t147 t148 t149 t150 t151 _ A2.out).mono ?_); rintro e w53 ⟨rfl, hb⟩; refine ⟨_, rfl, ?_⟩; have n0_ := Aside0.mk (below_step (by repeat (first | (with_reducible first | exact HB.out | apply below_alloc | apply pw_below_drewN | apply below_drew1) | exact HB.out)) hb); clear HB; have HB := n0_; clear n0_; (try clear hb); (try clear hb2); (try clear hk); (try clear hi)) | ((with_reducible refine gate_dst (N := 21) rfl ?_); refine Kd.R_lit k40 _ 40 ?hg (N := 21) ?hd (xs := ([(⟨3, 21, 5, 1, 2⟩ : S40), (⟨4, 0, 0, 1, 0⟩ : S40), (⟨t142, t143, t144, t145, t146⟩ : S40), (⟨4, 0, 0, 2, 0⟩ : S40), (⟨t147, t148, t149, t150, t151⟩ : S40)] : List (S40))) (inner := [.int .i64 3, .int .u16 21, .int .u32 5, .int .i64 1, .int .i64 2, .int .i64 4, .int .u16 0, .int .u32 0, .int .i64 1, .int .i64 0, .int .i64 t142, .int .u16 t143, .int .u32 t144, .int .i64 t145, .int .i64 t146, .int .i64 4, .int .u16 0, .int .u32 0, .int .i64 2, .int .i64 0, .int .i64 t147, .int .u16 t148, .int .u32 t149, .int .i64 t150, .int .i64 t151]) (ok := fun _ => True) (okp := fun _ => True) ?hr ?hp (fun _ hk => hk) trivial (Below.refl _ _) (Nat.le_refl _) (by simp) ?_; (case hd => rfl); (case hg => rfl); (case hr => first | (go_simp; done) | (go_simp; rfl)); (case hp => exact (Reps.c5 (show Kd.M k40 _ _ _ (⟨3, 21, 5, 1, 2⟩ : S40) [.int .i64 3, .int .u16 21, .int .u32 5, .int .i64 1, .int .i64 2] from (k40_mkM _ _ _ (⟨3, 21, 5, 1, 2⟩ : S40) )) (Reps.c5 (show Kd.M k40 _ _ _ (⟨4, 0, 0, 1, 0⟩ : S40) [.int .i64 4, .int .u16 0, .int .u32 0, .int .i64 1, .int .i64 0] from (k40_mkM _ _ _ (⟨4, 0, 0, 1, 0⟩ : S40) )) (Reps.c5 (show Kd.M k40 _ _ _ (⟨t142, t143, t144, t145, t146⟩ : S40) [.int .i64 t142, .int .u16 t143, .int .u32 t144, .int .i64 t145, .int .i64 t146] from (k40_mkM _ _ _ (⟨t142, t143, t144, t145, t146⟩ : S40) )) (Reps.c5 (show Kd.M k40 _ _ _ (⟨4, 0, 0, 2, 0⟩ : S40) [.int .i64 4, .int .u16 0, .int .u32 0, .int .i64 2, .int .i64 0] from (k40_mkM _ _ _ (⟨4, 0, 0, 2, 0⟩ : S40) )) (Reps.c5 (show Kd.M k40 _ _ _ (⟨t147, t148, t149, t150, t151⟩ : S40) [.int .i64 t147, .int .u16 t148, .int .u32 t149, .int .i64 t150, .int .i64 t151] from (k40_mkM _ _ _ (⟨t147, t148, t149, t150, t151⟩ : S40) )) (Reps.none _ _))))))); intro v153 w54 ho55 hb hg_ hnew_; clear hg_ hnew_; (first | rw [← Ny152.out] at ho55 | (simp only [Int.reduceToNat] at ho55; rw [← Ny152.out] at ho55)); have n0_ := Aside0.mk (Kd.R_lower ho55 (below_size (by repeat (first | (with_reducible first | exact HB.out | apply below_alloc | apply pw_below_drewN | apply below_drew1) | exact HB.out)))); have n1_ := Aside0.mk (below_step (by repeat (first | (with_reducible first | exact HB.out | apply below_alloc | apply pw_below_drewN | apply below_drew1) | exact HB.out)) hb); clear HB; have HO154 := n0_; have HB := n1_; clear n0_ n1_; clear hb ho55; obtain ⟨Ao56, co56, eo56⟩ := Kd.R_slice HO154.out; subst eo56) | ((with_reducible refine gate_callee (f := 51) rfl ?_); refine goesL_ (some 24) rfl rfl Try.func51 (by kernel_rfl) rfl #[.slice Ao56 y152.length co56] rfl (by (try simp only [List.map_toArray, List.map_cons, List.map_nil]); first | done | rfl | (simp only [List.length_drop, List.length_take]; rfl)) ?_; (with_reducible refine (emit_Emit.calls k _ _ y152 t155 t156 _ ?side1 ?side2 A3.out).mono ?_); (case side1 => repeat (first | exact (Kd.R_reads' HO154.out).2.2 | (with_reducible refine Kd.C_alloc ?_ _) | (with_reducible refine Kd.C_drewN ?_ _) | (with_reducible refine Kd.C_drew ?_))); (case side2 => exact (Kd.R_reads' HO154.out).2.1); rintro e w57 ⟨v157, rfl, ho0, hb⟩; refine ⟨_, rfl, ?_⟩; have n0_ := Aside0.mk (Kd.R_below (by (with_reducible repeat (first | apply Kd.R_alloc | apply Kd.R_drewN | apply Kd.R_drew)); exact HO154.out) hb); have n1_ := Aside0.mk (Kd.R_lower ho0 (below_size (by repeat (first | (with_reducible first | exact HB.out | apply below_alloc | apply pw_below_drewN | apply below_drew1) | exact HB.out)))); have n2_ := Aside0.mk (below_step (by repeat (first | (with_reducible first | exact HB.out | apply below_alloc | apply pw_below_drewN | apply below_drew1) | exact HB.out)) hb); clear HO154; clear HB; have HO154 := n0_; have HO158 := n1_; have HB := n2_; clear n0_ n1_ n2_; (try clear hb); (try clear hb2); (try clear hk); (try clear hi); (try clear ho0)) | ((with_reducible refine gate_callee (f := 52) rfl ?_); refine goesL_ (some 29) rfl rfl Try.func52 (by kernel_rfl) rfl #[.slice Ao56 y152.length co56] rfl (by (try simp only [List.map_toArray, List.map_cons, List.map_nil]); first | done | rfl | (simp only [List.length_drop, List.length_take]; rfl)) ?_; (with_reducible refine (emit_Size.calls k _ _ y152 t159 t160 _ ?side1 ?side2 A4.out).mono ?_); (case side1 => repeat (first | exact (Kd.R_reads' HO154.out).2.2 | (with_reducible refine Kd.C_alloc ?_ _) | (with_reducible refine Kd.C_drewN ?_ _) | (with_reducible refine Kd.C_drew ?_))); (case side2 => exact (Kd.R_reads' HO154.out).2.1); rintro e w58 ⟨rfl, hb⟩; refine ⟨_, rfl, ?_⟩; have n0_ := Aside0.mk (Kd.R_below (by (with_reducible repeat (first | apply Kd.R_alloc | apply Kd.R_drewN | apply Kd.R_drew)); exact HO154.out) hb); have n1_ := Aside0.mk (Kd.R_below (by (with_reducible repeat (first | apply Kd.R_alloc | apply Kd.R_drewN | apply Kd.R_drew)); exact HO158.out) hb); have n2_ := Aside0.mk (below_step (by repeat (first | (with_reducible first | exact HB.out | apply below_alloc | apply pw_below_drewN | apply below_drew1) | exact HB.out)) hb); clear HO154; clear HO158; clear HB; have HO154 := n0_; have HO158 := n1_; have HB := n2_; clear n0_ n1_ n2_; (try clear hb); (try clear hb2); (try clear hk); (try clear hi); have q59 : (3 : Int) ≤ ((y152.length : Int) : Int) := of_decide_eq_true (by first | (with_reducible assumption) | assumption); obtain ⟨i059, hi059, _, hsz59, _⟩ := info_parts info40; have hroom59 : y152.length ≤ co56 := (Kd.R_reads' HO154.out).2.1; have hC59 : Kd.C k40 _ Ao56 y152.length y152 := (Kd.R_reads' HO154.out).2.2; have hcut59 := cut_to (P := Try.prog) 24 40 .i64 Try.underlying24 hi059 Ao56 y152.length co56 3 (by omega) q59 hroom59; have hr59 := Kd.C_take (m := 3) hC59 (by omega); have hy59 : y161.length = (3 : Int).toNat := (by rw [Ny161.out, List.length_take]; omega); rw [← Ny161.out] at hr59; rw [← hy59] at hcut59; have HR164 := Aside0.mk hr59; have HC164 := Aside0.mk (show y161.length ≤ co56 from by omega); clear hr59 hC59 hroom59 hi059 hsz59; have KY59 := Aside0.mk hy59; clear hy59; have KL59 := Aside0.mk (show 3 ≤ y152.length from by omega); replace q59 := eq_true q59) | ((with_reducible refine gate_callee (f := 50) rfl ?_); refine goesL_ (some 35) rfl rfl Try.func50 (by kernel_rfl) rfl #[.slice Ao56 y161.length co56] rfl (by (try simp only [List.map_toArray, List.map_cons, List.map_nil]); first | done | rfl | (simp only [List.length_drop, List.length_take]; rfl)) ?_; (with_reducible refine (emit_Check.calls _ _ y161 t165 t166 _ ?side1 ?side2 A6.out).mono ?_); (case side1 => repeat (first | exact (by repeat (first | (with_reducible exact HR164.out) | (with_reducible refine Kd.C_alloc ?_ _) | (with_reducible refine Kd.C_drewN ?_ _) | (with_reducible refine Kd.C_drew ?_) | exact HR164.out)) | (with_reducible refine Kd.C_alloc ?_ _) | (with_reducible refine Kd.C_drewN ?_ _) | (with_reducible refine Kd.C_drew ?_))); (case side2 => exact HC164.out); rintro e w60 ⟨rfl, hb⟩; refine ⟨_, rfl, ?_⟩; have n0_ := Aside0.mk (Kd.R_below (by (with_reducible repeat (first | apply Kd.R_alloc | apply Kd.R_drewN | apply Kd.R_drew)); exact HO154.out) hb); have n1_ := Aside0.mk (Kd.R_below (by (with_reducible repeat (first | apply Kd.R_alloc | apply Kd.R_drewN | apply Kd.R_drew)); exact HO158.out) hb); have n2_ := Aside0.mk (Kd.C_below (by repeat (first | (with_reducible exact HR164.out) | (with_reducible refine Kd.C_alloc ?_ _) | (with_reducible refine Kd.C_drewN ?_ _) | (with_reducible refine Kd.C_drew ?_) | exact HR164.out)) hb); have n3_ := Aside0.mk (below_step (by repeat (first | (with_reducible first | exact HB.out | apply below_alloc | apply pw_below_drewN | apply below_drew1) | exact HB.out)) hb); clear HO154; clear HO158; clear HR164; clear HB; have HO154 := n0_; have HO158 := n1_; have HR164 := n2_; have HB := n3_; clear n0_ n1_ n2_ n3_; (try clear hb); (try clear hb2); (try clear hk); (try clear hi)) | ((with_reducible refine gate_callee (f := 85) rfl ?_); refine goesL_ (some 39) rfl rfl Try.func85 (by kernel_rfl) rfl #[.int .u32 1] rfl (by (try simp only [List.map_toArray, List.map_cons, List.map_nil]); first | done | rfl | (simp only [List.length_drop, List.length_take]; rfl)) ?_; (with_reducible refine (tamislaw23_ret.calls 1 t167 t168 t169 t170 t171 _ A7.out).mono ?_); rintro e w61 ⟨rfl, hb⟩; refine ⟨_, rfl, ?_⟩; have n0_ := Aside0.mk (Kd.R_below (by (with_reducible repeat (first | apply Kd.R_alloc | apply Kd.R_drewN | apply Kd.R_drew)); exact HO154.out) hb); have n1_ := Aside0.mk (Kd.R_below (by (with_reducible repeat (first | apply Kd.R_alloc | apply Kd.R_drewN | apply Kd.R_drew)); exact HO158.out) hb); have n2_ := Aside0.mk (Kd.C_below (by repeat (first | (with_reducible exact HR164.out) | (with_reducible refine Kd.C_alloc ?_ _) | (with_reducible refine Kd.C_drewN ?_ _) | (with_reducible refine Kd.C_drew ?_) | exact HR164.out)) hb); have n3_ := Aside0.mk (below_step (by repeat (first | (with_reducible first | exact HB.out | apply below_alloc | apply pw_below_drewN | apply below_drew1) | exact HB.out)) hb); clear HO154; clear HO158; clear HR164; clear HB; have HO154 := n0_; have HO158 := n1_; have HR164 := n2_; have HB := n3_; clear n0_ n1_ n2_ n3_; (try clear hb); (try clear hb2); (try clear hk); (try clear hi)) | ((with_reducible refine gate_dst (N := 41) rfl ?_); refine Kd.R_lit k40 _ 40 ?hg (N := 41) ?hd (xs := ([(⟨t167, t168, t169, t170, t171⟩ : S40), (⟨4, 0, 0, 0, 0⟩ : S40)] : List (S40))) (inner := [.int .i64 t167, .int .u16 t168, .int .u32 t169, .int .i64 t170, .int .i64 t171, .int .i64 4, .int .u16 0, .int .u32 0, .int .i64 0, .int .i64 0]) (ok := fun _ => True) (okp := fun _ => True) ?hr ?hp (fun _ hk => hk) trivial (Below.refl _ _) (Nat.le_refl _) (by simp) ?_; (case hd => rfl); (case hg => rfl); (case hr => first | (go_simp; done) | (go_simp; rfl)); (case hp => exact (Reps.c5 (show Kd.M k40 _ _ _ (⟨t167, t168, t169, t170, t171⟩ : S40) [.int .i64 t167, .int .u16 t168, .int .u32 t169, .int .i64 t170, .int .i64 t171] from (k40_mkM _ _ _ (⟨t167, t168, t169, t170, t171⟩ : S40) )) (Reps.c5 (show Kd.M k40 _ _ _ (⟨4, 0, 0, 0, 0⟩ : S40) [.int .i64 4, .int .u16 0, .int .u32 0, .int .i64 0, .int .i64 0] from (k40_mkM _ _ _ (⟨4, 0, 0, 0, 0⟩ : S40) )) (Reps.none _ _)))); intro v173 w62 ho63 hb hg_ hnew_; clear hg_ hnew_; (first | rw [← Ny172.out] at ho63 | (simp only [Int.reduceToNat] at ho63; rw [← Ny172.out] at ho63)); have n0_ := Aside0.mk (Kd.R_elder' (by (with_reducible repeat (first | apply Kd.R_alloc | apply Kd.R_drewN | apply Kd.R_drew)); exact HO154.out) (Kd.R_base ho63) hb); have n1_ := Aside0.mk (Kd.R_below (by (with_reducible repeat (first | apply Kd.R_alloc | apply Kd.R_drewN | apply Kd.R_drew)); exact HO158.out) hb); have n2_ := Aside0.mk (Kd.R_lower (Kd.R_new' ho63 (Kd.R_lt (by (with_reducible repeat (first | apply Kd.R_alloc | apply Kd.R_drewN | apply Kd.R_drew)); exact HO154.out))) (below_size (by repeat (first | (with_reducible first | exact HB.out | apply below_alloc | apply pw_below_drewN | apply below_drew1) | exact HB.out)))); have n3_ := Aside0.mk (Kd.C_below (by repeat (first | (with_reducible exact HR164.out) | (with_reducible refine Kd.C_alloc ?_ _) | (with_reducible refine Kd.C_drewN ?_ _) | (with_reducible refine Kd.C_drew ?_) | exact HR164.out)) hb); have n4_ := Aside0.mk (below_step (by repeat (first | (with_reducible first | exact HB.out | apply below_alloc | apply pw_below_drewN | apply below_drew1) | exact HB.out)) hb); clear HO154; clear HO158; clear HR164; clear HB; have HO154 := n0_; have HO158 := n1_; have HO174 := n2_; have HR164 := n3_; have HB := n4_; clear n0_ n1_ n2_ n3_ n4_; clear hb ho63; obtain ⟨Ao64, co64, eo64⟩ := Kd.R_slice HO174.out; subst eo64) | ((with_reducible refine gate_callee (f := 50) rfl ?_); refine goesL_ (some 42) rfl rfl Try.func50 (by kernel_rfl) rfl #[.slice Ao64 y172.length co64] rfl (by (try simp only [List.map_toArray, List.map_cons, List.map_nil]); first | done | rfl | (simp only [List.length_drop, List.length_take]; rfl)) ?_; (with_reducible refine (emit_Check.calls _ _ y172 t175 t176 _ ?side1 ?side2 A8.out).mono ?_); (case side1 => repeat (first | exact (Kd.R_reads' HO174.out).2.2 | (with_reducible refine Kd.C_alloc ?_ _) | (with_reducible refine Kd.C_drewN ?_ _) | (with_reducible refine Kd.C_drew ?_))); (case side2 => exact (Kd.R_reads' HO174.out).2.1); rintro e w65 ⟨rfl, hb⟩; refine ⟨_, rfl, ?_⟩; have n0_ := Aside0.mk (Kd.R_below (by (with_reducible repeat (first | apply Kd.R_alloc | apply Kd.R_drewN | apply Kd.R_drew)); exact HO154.out) hb); have n1_ := Aside0.mk (Kd.R_below (by (with_reducible repeat (first | apply Kd.R_alloc | apply Kd.R_drewN | apply Kd.R_drew)); exact HO158.out) hb); have n2_ := Aside0.mk (Kd.R_below (by (with_reducible repeat (first | apply Kd.R_alloc | apply Kd.R_drewN | apply Kd.R_drew)); exact HO174.out) hb); have n3_ := Aside0.mk (Kd.C_below (by repeat (first | (with_reducible exact HR164.out) | (with_reducible refine Kd.C_alloc ?_ _) | (with_reducible refine Kd.C_drewN ?_ _) | (with_reducible refine Kd.C_drew ?_) | exact HR164.out)) hb); have n4_ := Aside0.mk (below_step (by repeat (first | (with_reducible first | exact HB.out | apply below_alloc | apply pw_below_drewN | apply below_drew1) | exact HB.out)) hb); clear HO154; clear HO158; clear HO174; clear HR164; clear HB; have HO154 := n0_; have HO158 := n1_; have HO174 := n2_; have HR164 := n3_; have HB := n4_; clear n0_ n1_ n2_ n3_ n4_; (try clear hb); (try clear hb2); (try clear hk); (try clear hi)) | ((with_reducible refine gate_callee (f := 51) rfl ?_); refine goesL_ (some 46) rfl rfl Try.func51 (by kernel_rfl) rfl #[.slice none 0 0] rfl (by (try simp only [List.map_toArray, List.map_cons, List.map_nil]); first | done | rfl | (simp only [List.length_drop, List.length_take]; rfl)) ?_; (refine (emit_Emit.calls k _ _ ([] : List (S40)) t177 t178 _ ?side1 ?side2 A9.out).mono ?_); (case side1 => exact Kd.C_nil _ _); (case side2 => exact Nat.le_refl _); rintro e w66 ⟨v179, rfl, ho0, hb⟩; refine ⟨_, rfl, ?_⟩; have n0_ := Aside0.mk (Kd.R_below (by (with_reducible repeat (first | apply Kd.R_alloc | apply Kd.R_drewN | apply Kd.R_drew)); exact HO154.out) hb); have n1_ := Aside0.mk (Kd.R_elder' (by (with_reducible repeat (first | apply Kd.R_alloc | apply Kd.R_drewN | apply Kd.R_drew)); exact HO158.out) (Kd.R_base ho0) hb); have n2_ := Aside0.mk (Kd.R_below (by (with_reducible repeat (first | apply Kd.R_alloc | apply Kd.R_drewN | apply Kd.R_drew)); exact HO174.out) hb); have n3_ := Aside0.mk (Kd.R_lower (Kd.R_new' ho0 (Kd.R_lt (by (with_reducible repeat (first | apply Kd.R_alloc | apply Kd.R_drewN | apply Kd.R_drew)); exact HO158.out))) (below_size (by repeat (first | (with_reducible first | exact HB.out | apply below_alloc | apply pw_below_drewN | apply below_drew1) | exact HB.out)))); have n4_ := Aside0.mk (Kd.C_below (by repeat (first | (with_reducible exact HR164.out) | (with_reducible refine Kd.C_alloc ?_ _) | (with_reducible refine Kd.C_drewN ?_ _) | (with_reducible refine Kd.C_drew ?_) | exact HR164.out)) hb); have n5_ := Aside0.mk (below_step (by repeat (first | (with_reducible first | exact HB.out | apply below_alloc | apply pw_below_drewN | apply below_drew1) | exact HB.out)) hb); clear HO154; clear HO158; clear HO174; clear HR164; clear HB; have HO154 := n0_; have HO158 := n1_; have HO174 := n2_; have HO180 := n3_; have HR164 := n4_; have HB := n5_; clear n0_ n1_ n2_ n3_ n4_ n5_; (try clear hb); (try clear hb2); (try clear hk); (try clear hi); (try clear ho0)) | ((with_reducible refine gate_callee (f := 53) rfl ?_); refine goesL_ (some 51) rfl rfl Try.func53 (by kernel_rfl) rfl #[.slice Ao56 y152.length co56] rfl (by (try simp only [List.map_toArray, List.map_cons, List.map_nil]); first | done | rfl | (simp only [List.length_drop, List.length_take]; rfl)) ?_; (with_reducible refine (emit_Long.calls k _ _ y152 t181 t182 _ ?side1 ?side2 A10.out).mono ?_); (case side1 => repeat (first | exact (Kd.R_reads' HO154.out).2.2 | (with_reducible refine Kd.C_alloc ?_ _) | (with_reducible refine Kd.C_drewN ?_ _) | (with_reducible refine Kd.C_drew ?_))); (case side2 => exact (Kd.R_reads' HO154.out).2.1); rintro e w67 ⟨v183, rfl, ho0, hb⟩; refine ⟨_, rfl, ?_⟩; have n0_ := Aside0.mk (Kd.R_below (by (with_reducible repeat (first | apply Kd.R_alloc | apply Kd.R_drewN | apply Kd.R_drew)); exact HO154.out) hb); have n1_ := Aside0.mk (Kd.R_below (by (with_reducible repeat (first | apply Kd.R_alloc | apply Kd.R_drewN | apply Kd.R_drew)); exact HO158.out) hb); have n2_ := Aside0.mk (Kd.R_below (by (with_reducible repeat (first | apply Kd.R_alloc | apply Kd.R_drewN | apply Kd.R_drew)); exact HO174.out) hb); have n3_ := Aside0.mk (Kd.R_below (by (with_reducible repeat (first | apply Kd.R_alloc | apply Kd.R_drewN | apply Kd.R_drew)); exact HO180.out) hb); have n4_ := Aside0.mk (Kd.R_lower ho0 (below_size (by repeat (first | (with_reducible first | exact HB.out | apply below_alloc | apply pw_below_drewN | apply below_drew1) | exact HB.out)))); have n5_ := Aside0.mk (Kd.C_below (by repeat (first | (with_reducible exact HR164.out) | (with_reducible refine Kd.C_alloc ?_ _) | (with_reducible refine Kd.C_drewN ?_ _) | (with_reducible refine Kd.C_drew ?_) | exact HR164.out)) hb); have n6_ := Aside0.mk (below_step (by repeat (first | (with_reducible first | exact HB.out | apply below_alloc | apply pw_below_drewN | apply below_drew1) | exact HB.out)) hb); clear HO154; clear HO158; clear HO174; clear HO180; clear HR164; clear HB; have HO154 := n0_; have HO158 := n1_; have HO174 := n2_; have HO180 := n3_; have HO184 := n4_; have HR164 := n5_; have HB := n6_; clear n0_ n1_ n2_ n3_ n4_ n5_ n6_; (try clear hb); (try clear hb2); (try clear hk); (try clear hi); (try clear ho0)) | ((with_reducible refine gate_dst (N := 56) rfl ?_); refine Kd.R_lit k40 _ 40 ?hg (N := 56) ?hd (xs := ([(⟨5, 0, 0, 0, 0⟩ : S40)] : List (S40))) (inner := [.int .i64 5, .int .u16 0, .int .u32 0, .int .i64 0, .int .i64 0]) (ok := fun _ => True) (okp := fun _ => True) ?hr ?hp (fun _ hk => hk) trivial (Below.refl _ _) (Nat.le_refl _) (by simp) ?_; (case hd => rfl); (case hg => rfl); (case hr => first | (go_simp; done) | (go_simp; rfl)); (case hp => exact (Reps.c5 (show Kd.M k40 _ _ _ (⟨5, 0, 0, 0, 0⟩ : S40) [.int .i64 5, .int .u16 0, .int .u32 0, .int .i64 0, .int .i64 0] from (k40_mkM _ _ _ (⟨5, 0, 0, 0, 0⟩ : S40) )) (Reps.none _ _))); intro v186 w68 ho69 hb hg_ hnew_; clear hg_ hnew_; (first | rw [← Ny185.out] at ho69 | (simp only [Int.reduceToNat] at ho69; rw [← Ny185.out] at ho69)); have n0_ := Aside0.mk (Kd.R_elder' (by (with_reducible repeat (first | apply Kd.R_alloc | apply Kd.R_drewN | apply Kd.R_drew)); exact HO154.out) (Kd.R_base ho69) hb); have n1_ := Aside0.mk (Kd.R_below (by (with_reducible repeat (first | apply Kd.R_alloc | apply Kd.R_drewN | apply Kd.R_drew)); exact HO158.out) hb); have n2_ := Aside0.mk (Kd.R_elder' (by (with_reducible repeat (first | apply Kd.R_alloc | apply Kd.R_drewN | apply Kd.R_drew)); exact HO174.out) (Kd.R_base ho69) hb); have n3_ := Aside0.mk (Kd.R_below (by (with_reducible repeat (first | apply Kd.R_alloc | apply Kd.R_drewN | apply Kd.R_drew)); exact HO180.out) hb); have n4_ := Aside0.mk (Kd.R_below (by (with_reducible repeat (first | apply Kd.R_alloc | apply Kd.R_drewN | apply Kd.R_drew)); exact HO184.out) hb); have n5_ := Aside0.mk (Kd.R_lower (Kd.R_new' (Kd.R_new' ho69 (Kd.R_lt (by (with_reducible repeat (first | apply Kd.R_alloc | apply Kd.R_drewN | apply Kd.R_drew)); exact HO154.out))) (Kd.R_lt (by (with_reducible repeat (first | apply Kd.R_alloc | apply Kd.R_drewN | apply Kd.R_drew)); exact HO174.out))) (below_size (by repeat (first | (with_reducible first | exact HB.out | apply below_alloc | apply pw_below_drewN | apply below_drew1) | exact HB.out)))); have n6_ := Aside0.mk (Kd.C_below (by repeat (first | (with_reducible exact HR164.out) | (with_reducible refine Kd.C_alloc ?_ _) | (with_reducible refine Kd.C_drewN ?_ _) | (with_reducible refine Kd.C_drew ?_) | exact HR164.out)) hb); have n7_ := Aside0.mk (below_step (by repeat (first | (with_reducible first | exact HB.out | apply below_alloc | apply pw_below_drewN | apply below_drew1) | exact HB.out)) hb); clear HO154; clear HO158; clear HO174; clear HO180; clear HO184; clear HR164; clear HB; have HO154 := n0_; have HO158 := n1_; have HO174 := n2_; have HO180 := n3_; have HO184 := n4_; have HO187 := n5_; have HR164 := n6_; have HB := n7_; clear n0_ n1_ n2_ n3_ n4_ n5_ n6_ n7_; clear hb ho69; obtain ⟨Ao70, co70, eo70⟩ := Kd.R_slice HO187.out; subst eo70) | ((with_reducible refine gate_callee (f := 51) rfl ?_); refine goesL_ (some 57) rfl rfl Try.func51 (by kernel_rfl) rfl #[.slice Ao70 y185.length co70] rfl (by (try simp only [List.map_toArray, List.map_cons, List.map_nil]); first | done | rfl | (simp only [List.length_drop, List.length_take]; rfl)) ?_; (with_reducible refine (emit_Emit.calls k _ _ y185 t188 t189 _ ?side1 ?side2 A11.out).mono ?_); (case side1 => repeat (first | exact (Kd.R_reads' HO187.out).2.2 | (with_reducible refine Kd.C_alloc ?_ _) | (with_reducible refine Kd.C_drewN ?_ _) | (with_reducible refine Kd.C_drew ?_))); (case side2 => exact (Kd.R_reads' HO187.out).2.1); rintro e w71 ⟨v190, rfl, ho0, hb⟩; refine ⟨_, rfl, ?_⟩; have n0_ := Aside0.mk (Kd.R_below (by (with_reducible repeat (first | apply Kd.R_alloc | apply Kd.R_drewN | apply Kd.R_drew)); exact HO154.out) hb); have n1_ := Aside0.mk (Kd.R_elder' (by (with_reducible repeat (first | apply Kd.R_alloc | apply Kd.R_drewN | apply Kd.R_drew)); exact HO158.out) (Kd.R_base ho0) hb); have n2_ := Aside0.mk (Kd.R_below (by (with_reducible repeat (first | apply Kd.R_alloc | apply Kd.R_drewN | apply Kd.R_drew)); exact HO174.out) hb); have n3_ := Aside0.mk (Kd.R_elder' (by (with_reducible repeat (first | apply Kd.R_alloc | apply Kd.R_drewN | apply Kd.R_drew)); exact HO180.out) (Kd.R_base ho0) hb); have n4_ := Aside0.mk (Kd.R_below (by (with_reducible repeat (first | apply Kd.R_alloc | apply Kd.R_drewN | apply Kd.R_drew)); exact HO184.out) hb); have n5_ := Aside0.mk (Kd.R_below (by (with_reducible repeat (first | apply Kd.R_alloc | apply Kd.R_drewN | apply Kd.R_drew)); exact HO187.out) hb); have n6_ := Aside0.mk (Kd.R_lower (Kd.R_new' (Kd.R_new' ho0 (Kd.R_lt (by (with_reducible repeat (first | apply Kd.R_alloc | apply Kd.R_drewN | apply Kd.R_drew)); exact HO158.out))) (Kd.R_lt (by (with_reducible repeat (first | apply Kd.R_alloc | apply Kd.R_drewN | apply Kd.R_drew)); exact HO180.out))) (below_size (by repeat (first | (with_reducible first | exact HB.out | apply below_alloc | apply pw_below_drewN | apply below_drew1) | exact HB.out)))); have n7_ := Aside0.mk (Kd.C_below (by repeat (first | (with_reducible exact HR164.out) | (with_reducible refine Kd.C_alloc ?_ _) | (with_reducible refine Kd.C_drewN ?_ _) | (with_reducible refine Kd.C_drew ?_) | exact HR164.out)) hb); have n8_ := Aside0.mk (below_step (by repeat (first | (with_reducible first | exact HB.out | apply below_alloc | apply pw_below_drewN | apply below_drew1) | exact HB.out)) hb); clear HO154; clear HO158; clear HO174; clear HO180; clear HO184; clear HO187; clear HR164; clear HB; have HO154 := n0_; have HO158 := n1_; have HO174 := n2_; have HO180 := n3_; have HO184 := n4_; have HO187 := n5_; have HO191 := n6_; have HR164 := n7_; have HB := n8_; clear n0_ n1_ n2_ n3_ n4_ n5_ n6_ n7_ n8_; (try clear hb); (try clear hb2); (try clear hk); (try clear hi); (try clear ho0)) | ((with_reducible refine gate_dst (N := 64) rfl ?_); refine Kd.R_lit k56 _ 56 ?hg (N := 64) ?hd (xs := ([(⟨21, 0, 1, 5⟩ : S56), (⟨6, 0, 0, 7⟩ : S56), (⟨6, 0, 0, 8⟩ : S56)] : List (S56))) (inner := [.int .u16 21, .int .u8 0, .int .u8 1, .int .u32 5, .int .u16 6, .int .u8 0, .int .u8 0, .int .u32 7, .int .u16 6, .int .u8 0, .int .u8 0, .int .u32 8]) (ok := fun _ => True) (okp := fun _ => True) ?hr ?hp (fun _ hk => hk) trivial (Below.refl _ _) (Nat.le_refl _) (by simp) ?_; (case hd => rfl); (case hg => rfl); (case hr => first | (go_simp; done) | (go_simp; rfl)); (case hp => exact (Reps.c4 (show Kd.M k56 _ _ _ (⟨21, 0, 1, 5⟩ : S56) [.int .u16 21, .int .u8 0, .int .u8 1, .int .u32 5] from (k56_mkM _ _ _ (⟨21, 0, 1, 5⟩ : S56) )) (Reps.c4 (show Kd.M k56 _ _ _ (⟨6, 0, 0, 7⟩ : S56) [.int .u16 6, .int .u8 0, .int .u8 0, .int .u32 7] from (k56_mkM _ _ _ (⟨6, 0, 0, 7⟩ : S56) )) (Reps.c4 (show Kd.M k56 _ _ _ (⟨6, 0, 0, 8⟩ : S56) [.int .u16 6, .int .u8 0, .int .u8 0, .int .u32 8] from (k56_mkM _ _ _ (⟨6, 0, 0, 8⟩ : S56) )) (Reps.none _ _))))); intro v193 w72 ho73 hb hg_ hnew_; clear hg_ hnew_; (first | rw [← Ny192.out] at ho73 | (simp only [Int.reduceToNat] at ho73; rw [← Ny192.out] at ho73)); have n0_ := Aside0.mk (Kd.R_below (by (with_reducible repeat (first | apply Kd.R_alloc | apply Kd.R_drewN | apply Kd.R_drew)); exact HO154.out) hb); have n1_ := Aside0.mk (Kd.R_elder' (by (with_reducible repeat (first | apply Kd.R_alloc | apply Kd.R_drewN | apply Kd.R_drew)); exact HO158.out) (Kd.R_base ho73) hb); have n2_ := Aside0.mk (Kd.R_below (by (with_reducible repeat (first | apply Kd.R_alloc | apply Kd.R_drewN | apply Kd.R_drew)); exact HO174.out) hb); have n3_ := Aside0.mk (Kd.R_elder' (by (with_reducible repeat (first | apply Kd.R_alloc | apply Kd.R_drewN | apply Kd.R_drew)); exact HO180.out) (Kd.R_base ho73) hb); have n4_ := Aside0.mk (Kd.R_below (by (with_reducible repeat (first | apply Kd.R_alloc | apply Kd.R_drewN | apply Kd.R_drew)); exact HO184.out) hb); have n5_ := Aside0.mk (Kd.R_below (by (with_reducible repeat (first | apply Kd.R_alloc | apply Kd.R_drewN | apply Kd.R_drew)); exact HO187.out) hb); have n6_ := Aside0.mk (Kd.R_elder' (by (with_reducible repeat (first | apply Kd.R_alloc | apply Kd.R_drewN | apply Kd.R_drew)); exact HO191.out) (Kd.R_base ho73) hb); have n7_ := Aside0.mk (Kd.R_lower (Kd.R_new' (Kd.R_new' (Kd.R_new' ho73 (Kd.R_lt (by (with_reducible repeat (first | apply Kd.R_alloc | apply Kd.R_drewN | apply Kd.R_drew)); exact HO158.out))) (Kd.R_lt (by (with_reducible repeat (first | apply Kd.R_alloc | apply Kd.R_drewN | apply Kd.R_drew)); exact HO180.out))) (Kd.R_lt (by (with_reducible repeat (first | apply Kd.R_alloc | apply Kd.R_drewN | apply Kd.R_drew)); exact HO191.out))) (below_size (by repeat (first | (with_reducible first | exact HB.out | apply below_alloc | apply pw_below_drewN | apply below_drew1) | exact HB.out)))); have n8_ := Aside0.mk (Kd.C_below (by repeat (first | (with_reducible exact HR164.out) | (with_reducible refine Kd.C_alloc ?_ _) | (with_reducible refine Kd.C_drewN ?_ _) | (with_reducible refine Kd.C_drew ?_) | exact HR164.out)) hb); have n9_ := Aside0.mk (below_step (by repeat (first | (with_reducible first | exact HB.out | apply below_alloc | apply pw_below_drewN | apply below_drew1) | exact HB.out)) hb); clear HO154; clear HO158; clear HO174; clear HO180; clear HO184; clear HO187; clear HO191; clear HR164; clear HB; have HO154 := n0_; have HO158 := n1_; have HO174 := n2_; have HO180 := n3_; have HO184 := n4_; have HO187 := n5_; have HO191 := n6_; have HO194 := n7_; have HR164 := n8_; have HB := n9_; clear n0_ n1_ n2_ n3_ n4_ n5_ n6_ n7_ n8_ n9_; clear hb ho73; obtain ⟨Ao74, co74, eo74⟩ := Kd.R_slice HO158.out; subst eo74; obtain ⟨Ao75, co75, eo75⟩ := Kd.R_slice HO194.out; subst eo75) | ((with_reducible refine gate_callee (f := 56) rfl ?_); refine goesL_ (some 65) rfl rfl Try.func56 (by kernel_rfl) rfl #[.slice Ao74 t155.length co74, .slice Ao75 y192.length co75] rfl (by (try simp only [List.map_toArray, List.map_cons, List.map_nil]); first | done | rfl | (simp only [List.length_drop, List.length_take]; rfl)) ?_; (with_reducible refine (tamisref02_Same.calls k _ _ t155 _ _ y192 true _ ?side1 ?side2 ?side3 ?side4 A12.out).mono ?_); (case side1 => repeat (first | exact (Kd.R_reads' HO158.out).2.2 | (with_reducible refine Kd.C_alloc ?_ _) | (with_reducible refine Kd.C_drewN ?_ _) | (with_reducible refine Kd.C_drew ?_))); (case side2 => exact (Kd.R_reads' HO158.out).2.1); (case side3 => repeat (first | exact (Kd.R_reads' HO194.out).2.2 | (with_reducible refine Kd.C_alloc ?_ _) | (with_reducible refine Kd.C_drewN ?_ _) | (with_reducible refine Kd.C_drew ?_))); (case side4 => exact (Kd.R_reads' HO194.out).2.1); rintro e w' ⟨rfl, ⟨nd, rfl⟩⟩; refine ⟨_, rfl, ?_⟩; obtain ⟨Ao76, co76, eo76⟩ := Kd.R_slice HO184.out; subst eo76; have p196 : 0 ≤ (0 : Int) := (by omega); have q196 : 0 < (t181.length : Int) := of_decide_eq_true (by first | (with_reducible assumption) | assumption); obtain ⟨ad196, e196, hx196_0⟩ := Kd.at_bool (Kd.R_reads' HO184.out).2.2 0 p196 q196; (try rw [← Nbq24.out] at hx196_0); cases e196; have qi196 : (0 < t181.length) = True := eq_true (by omega); (try rw [show ((0 : Int)).toNat = 0 from rfl] at hx196_0); (try rw [Addr.add_zero'] at hx196_0); replace p196 := eq_true p196; replace q196 := eq_true q196))
                              go_ret
                              exact ⟨by first | rfl | (simp [errW_none, errW_some] <;> rfl) | (simp [*, errW_none, errW_some] <;> rfl), by repeat (first | (with_reducible first | exact HB.out | apply below_alloc | apply pw_below_drewN | apply below_drew1) | exact HB.out)⟩
                            · rw [if_neg c51] at H
                              have c51b0 : (t182 == 0) = false := beq_eq_false_iff_ne.mpr c51
                              have c51b1 : (t182 != 0) = true := bne_iff_ne.mpr c51
                              exact absurd (Option.some.inj H) (by decide)
                        · rw [if_neg c23] at H
                          exact absurd H (by simp)
                      · rw [if_neg c22] at H
                        have c22b0 : ((t181.length : Int) == 5) = false := beq_eq_false_iff_ne.mpr c22
                        have c22b1 : ((t181.length : Int) != 5) = true := bne_iff_ne.mpr c22
                        exact absurd (Option.some.inj H) (by decide)
                    · rw [if_neg c21] at H
                      have c21b0 : (t178 == 4) = false := beq_eq_false_iff_ne.mpr c21
                      have c21b1 : (t178 != 4) = true := bne_iff_ne.mpr c21
                      exact absurd (Option.some.inj H) (by decide)
                  · rw [if_neg c20] at H
                    have c20b0 : (t176 == 12) = false := beq_eq_false_iff_ne.mpr c20
                    have c20b1 : (t176 != 12) = true := bne_iff_ne.mpr c20
                    exact absurd (Option.some.inj H) (by decide)
                · rw [if_neg c19] at H
                  have c19b0 : (t175 == 1) = false := beq_eq_false_iff_ne.mpr c19
                  have c19b1 : (t175 != 1) = true := bne_iff_ne.mpr c19
                  exact absurd (Option.some.inj H) (by decide)
              · rw [if_neg c18] at H
                have c18b0 : (t166 == 15) = false := beq_eq_false_iff_ne.mpr c18
                have c18b1 : (t166 != 15) = true := bne_iff_ne.mpr c18
                exact absurd (Option.some.inj H) (by decide)
            · rw [if_neg c17] at H
              have c17b0 : (t165 == 0) = false := beq_eq_false_iff_ne.mpr c17
              have c17b1 : (t165 != 0) = true := bne_iff_ne.mpr c17
              exact absurd (Option.some.inj H) (by decide)
          · rw [if_neg c16] at H
            have c16b0 : (t160 == 0) = false := beq_eq_false_iff_ne.mpr c16
            have c16b1 : (t160 != 0) = true := bne_iff_ne.mpr c16
            exact absurd (Option.some.inj H) (by decide)
        · rw [if_neg c15] at H
          have c15b0 : (t159 == 3) = false := beq_eq_false_iff_ne.mpr c15
          have c15b1 : (t159 != 3) = true := bne_iff_ne.mpr c15
          exact absurd (Option.some.inj H) (by decide)
      · rw [if_neg c14] at H
        have c14b0 : (t156 == 0) = false := beq_eq_false_iff_ne.mpr c14
        have c14b1 : (t156 != 0) = true := bne_iff_ne.mpr c14
        exact absurd (Option.some.inj H) (by decide)
    · replace c13 := Bool.eq_false_iff.mpr c13
      subst c13
      have H1 : (some false) = some true := by rw [if_neg (show ¬ (false = true) by decide)] at H; exact H
      clear H
      have H := H1
      clear H1
      exact absurd (Option.some.inj H) (by decide)
  · rw [if_neg c5] at H
    exact absurd H (by simp)
def tamislaw23_awake.f : Option (Bool) := some true
theorem tamislaw23_awake.calls (r : Bool) (w : World) (h : tamislaw23_awake.f = some r) :
    Calls Try.prog 49 #[] w fun e w' => e = .returned (.bool r) ∧ Below w.heap.size w w' := by
  obtain rfl := Option.some.inj h
  exact tamislaw23_awake0.calls 60 true rfl w (by decide +kernel)

/-! ### tamisref23_width: function 91 -/
def tamisref23_width.f (a0_0 : Int) (a0_1 : Int) (a0_2 : Int) (a0_3 : Int) (a0_4 : Int) (a1 : Bool) : Option (Int) := if a0_0 = 4 then (some 0) else (if a1 = true then (some 3) else (some 1))
set_option maxHeartbeats 8000000 in
set_option maxRecDepth 100000 in
theorem tamisref23_width.calls (a0_0 : Int) (a0_1 : Int) (a0_2 : Int) (a0_3 : Int) (a0_4 : Int) (a1 : Bool) (r : Int) (w : World) (h : tamisref23_width.f a0_0 a0_1 a0_2 a0_3 a0_4 a1 = some r) :
    Calls Try.prog 91 #[.agg #[.int .i64 a0_0, .int .u16 a0_1, .int .u32 a0_2, .int .i64 a0_3, .int .i64 a0_4], .bool a1] w fun e w' => e = .returned (.int .i64 r) ∧ Below w.heap.size w w' := by
  have hu38 := Try.underlying38
  have HB := Aside0.mk (Below.refl w.heap.size w)
  have H : (if a0_0 = 4 then (some 0) else (if a1 = true then (some 3) else (some 1))) = some r := h
  clear h
  by_cases c3 : a0_0 = 4
  · rw [if_pos c3] at H
    have c3b0 : (a0_0 == 4) = true := beq_iff_eq.mpr c3
    have c3b1 : (a0_0 != 4) = false := bne_eq_false_iff_eq.mpr c3
    clear c3
    obtain rfl := Option.some.inj H
    go_enter Try.func91, Try.ntmps91
    go_wp2_with (first | ((with_reducible refine gate_dst (N := 2) rfl ?_); refine box_event ?hg (N := 2) ?hd (cs := #[.int .i64 a0_0, .int .u16 a0_1, .int .u32 a0_2, .int .i64 a0_3, .int .i64 a0_4]) (t := 38) ?hr ?_; (case hd => rfl); (case hg => rfl); (case hr => first | (go_simp; done) | (go_simp; rfl)); intro gb142 hg w4 hbox hb; have n0_ := Aside0.mk (below_step (by repeat (first | (with_reducible first | exact HB.out | apply below_alloc | apply pw_below_drewN | apply below_drew1) | exact HB.out)) hb); have n1_ := Aside0.mk (hbox); have n2_ := Aside0.mk ((by rw [hg]; exact (below_size (by repeat (first | (with_reducible first | exact HB.out | apply below_alloc | apply pw_below_drewN | apply below_drew1) | exact HB.out))) : w.heap.size ≤ gb142)); have n3_ := Aside0.mk ((by rw [hg]; exact (below_size (by repeat (first | (with_reducible first | exact HB.out | apply below_alloc | apply pw_below_drewN | apply below_drew1) | exact HB.out))) : w.heap.size ≤ gb142)); clear HB; have HB := n0_; have BK142 := n1_; have GW142 := n2_; have GE142 := n3_; clear n0_ n1_ n2_ n3_; clear hb hbox hg; have hcz5_0 : w4.cell? ⟨gb142, 0, none⟩ = some (.int .i64 a0_0) := (blk_cell BK142.out 0).trans rfl; have hcz5_1 : w4.cell? ⟨gb142, 1, none⟩ = some (.int .u16 a0_1) := (blk_cell BK142.out 1).trans rfl; have hcz5_2 : w4.cell? ⟨gb142, 2, none⟩ = some (.int .u32 a0_2) := (blk_cell BK142.out 2).trans rfl; have hcz5_3 : w4.cell? ⟨gb142, 3, none⟩ = some (.int .i64 a0_3) := (blk_cell BK142.out 3).trans rfl; have hcz5_4 : w4.cell? ⟨gb142, 4, none⟩ = some (.int .i64 a0_4) := (blk_cell BK142.out 4).trans rfl; have hfz5_0 := blk_frozen BK142.out 0; have hfz5_1 := blk_frozen BK142.out 1; have hfz5_2 := blk_frozen BK142.out 2; have hfz5_3 := blk_frozen BK142.out 3; have hfz5_4 := blk_frozen BK142.out 4))
    go_ret
    exact ⟨by first | rfl | (simp [errW_none, errW_some] <;> rfl) | (simp [*, errW_none, errW_some] <;> rfl), by repeat (first | (with_reducible first | exact HB.out | apply below_alloc | apply pw_below_drewN | apply below_drew1 | refine below_set ?_ GE142.out) | exact HB.out)⟩
  · rw [if_neg c3] at H
    have c3b0 : (a0_0 == 4) = false := beq_eq_false_iff_ne.mpr c3
    have c3b1 : (a0_0 != 4) = true := bne_iff_ne.mpr c3
    by_cases c6 : a1 = true
    · subst c6
      have H1 : (some 3) = some r := by rw [if_pos rfl] at H; exact H
      clear H
      have H := H1
      clear H1
      obtain rfl := Option.some.inj H
      go_enter Try.func91, Try.ntmps91
      go_wp2_with (first | ((with_reducible refine gate_dst (N := 2) rfl ?_); refine box_event ?hg (N := 2) ?hd (cs := #[.int .i64 a0_0, .int .u16 a0_1, .int .u32 a0_2, .int .i64 a0_3, .int .i64 a0_4]) (t := 38) ?hr ?_; (case hd => rfl); (case hg => rfl); (case hr => first | (go_simp; done) | (go_simp; rfl)); intro gb142 hg w7 hbox hb; have n0_ := Aside0.mk (below_step (by repeat (first | (with_reducible first | exact HB.out | apply below_alloc | apply pw_below_drewN | apply below_drew1) | exact HB.out)) hb); have n1_ := Aside0.mk (hbox); have n2_ := Aside0.mk ((by rw [hg]; exact (below_size (by repeat (first | (with_reducible first | exact HB.out | apply below_alloc | apply pw_below_drewN | apply below_drew1) | exact HB.out))) : w.heap.size ≤ gb142)); have n3_ := Aside0.mk ((by rw [hg]; exact (below_size (by repeat (first | (with_reducible first | exact HB.out | apply below_alloc | apply pw_below_drewN | apply below_drew1) | exact HB.out))) : w.heap.size ≤ gb142)); clear HB; have HB := n0_; have BK142 := n1_; have GW142 := n2_; have GE142 := n3_; clear n0_ n1_ n2_ n3_; clear hb hbox hg; have hcz8_0 : w7.cell? ⟨gb142, 0, none⟩ = some (.int .i64 a0_0) := (blk_cell BK142.out 0).trans rfl; have hcz8_1 : w7.cell? ⟨gb142, 1, none⟩ = some (.int .u16 a0_1) := (blk_cell BK142.out 1).trans rfl; have hcz8_2 : w7.cell? ⟨gb142, 2, none⟩ = some (.int .u32 a0_2) := (blk_cell BK142.out 2).trans rfl; have hcz8_3 : w7.cell? ⟨gb142, 3, none⟩ = some (.int .i64 a0_3) := (blk_cell BK142.out 3).trans rfl; have hcz8_4 : w7.cell? ⟨gb142, 4, none⟩ = some (.int .i64 a0_4) := (blk_cell BK142.out 4).trans rfl; have hfz8_0 := blk_frozen BK142.out 0; have hfz8_1 := blk_frozen BK142.out 1; have hfz8_2 := blk_frozen BK142.out 2; have hfz8_3 := blk_frozen BK142.out 3; have hfz8_4 := blk_frozen BK142.out 4))
      go_ret
      exact ⟨by first | rfl | (simp [errW_none, errW_some] <;> rfl) | (simp [*, errW_none, errW_some] <;> rfl), by repeat (first | (with_reducible first | exact HB.out | apply below_alloc | apply pw_below_drewN | apply below_drew1 | refine below_set ?_ GE142.out) | exact HB.out)⟩
    · replace c6 := Bool.eq_false_iff.mpr c6
      subst c6
      have H1 : (some 1) = some r := by rw [if_neg (show ¬ (false = true) by decide)] at H; exact H
      clear H
      have H := H1
      clear H1
      obtain rfl := Option.some.inj H
      go_enter Try.func91, Try.ntmps91
      go_wp2_with (first | ((with_reducible refine gate_dst (N := 2) rfl ?_); refine box_event ?hg (N := 2) ?hd (cs := #[.int .i64 a0_0, .int .u16 a0_1, .int .u32 a0_2, .int .i64 a0_3, .int .i64 a0_4]) (t := 38) ?hr ?_; (case hd => rfl); (case hg => rfl); (case hr => first | (go_simp; done) | (go_simp; rfl)); intro gb142 hg w9 hbox hb; have n0_ := Aside0.mk (below_step (by repeat (first | (with_reducible first | exact HB.out | apply below_alloc | apply pw_below_drewN | apply below_drew1) | exact HB.out)) hb); have n1_ := Aside0.mk (hbox); have n2_ := Aside0.mk ((by rw [hg]; exact (below_size (by repeat (first | (with_reducible first | exact HB.out | apply below_alloc | apply pw_below_drewN | apply below_drew1) | exact HB.out))) : w.heap.size ≤ gb142)); have n3_ := Aside0.mk ((by rw [hg]; exact (below_size (by repeat (first | (with_reducible first | exact HB.out | apply below_alloc | apply pw_below_drewN | apply below_drew1) | exact HB.out))) : w.heap.size ≤ gb142)); clear HB; have HB := n0_; have BK142 := n1_; have GW142 := n2_; have GE142 := n3_; clear n0_ n1_ n2_ n3_; clear hb hbox hg; have hcz10_0 : w9.cell? ⟨gb142, 0, none⟩ = some (.int .i64 a0_0) := (blk_cell BK142.out 0).trans rfl; have hcz10_1 : w9.cell? ⟨gb142, 1, none⟩ = some (.int .u16 a0_1) := (blk_cell BK142.out 1).trans rfl; have hcz10_2 : w9.cell? ⟨gb142, 2, none⟩ = some (.int .u32 a0_2) := (blk_cell BK142.out 2).trans rfl; have hcz10_3 : w9.cell? ⟨gb142, 3, none⟩ = some (.int .i64 a0_3) := (blk_cell BK142.out 3).trans rfl; have hcz10_4 : w9.cell? ⟨gb142, 4, none⟩ = some (.int .i64 a0_4) := (blk_cell BK142.out 4).trans rfl; have hfz10_0 := blk_frozen BK142.out 0; have hfz10_1 := blk_frozen BK142.out 1; have hfz10_2 := blk_frozen BK142.out 2; have hfz10_3 := blk_frozen BK142.out 3; have hfz10_4 := blk_frozen BK142.out 4))
      go_ret
      exact ⟨by first | rfl | (simp [errW_none, errW_some] <;> rfl) | (simp [*, errW_none, errW_some] <;> rfl), by repeat (first | (with_reducible first | exact HB.out | apply below_alloc | apply pw_below_drewN | apply below_drew1 | refine below_set ?_ GE142.out) | exact HB.out)⟩

/-! ### tamisref23_Places: function 57 -/
def tamisref23_Places.l0 : Nat → List (S38) → List Bool → List Int → Int → Option (List Int)
  | 0, _, _, _, _ => none
  | k + 1, x0, x1, x5, x6 => if x6 < (x0.length : Int) then (if 0 ≤ x6 then (if x6 < (x5.length : Int) then (if x6 < (x1.length : Int) then ((tamisref23_width.f ((rd_T38 x0 x6).f0) ((rd_T38 x0 x6).f1) ((rd_T38 x0 x6).f2) ((rd_T38 x0 x6).f3) ((rd_T38 x0 x6).f4) (rdOf false x1 x6)).bind fun t149 => (if 0 ≤ (wrap64 (x6 + 1)) then (if (wrap64 (x6 + 1)) < (x5.length : Int) then (tamisref23_Places.l0 k x0 x1 (x5.set ((wrap64 (x6 + 1)) : Int).toNat (wrap64 ((rd x5 x6) + t149))) (wrap64 (x6 + 1))) else (none)) else (none))) else (none)) else (none)) else (none)) else (some x5)
def tamisref23_Places.f (k : Nat) (l0 : List (S38)) (l1 : List Bool) : Option (List Int) := if 0 ≤ (wrap64 ((l0.length : Int) + 1)) then (if (wrap64 ((l0.length : Int) + 1) : Int).toNat ≤ 35184372088832 then (tamisref23_Places.l0 k l0 l1 (List.replicate (wrap64 ((l0.length : Int) + 1) : Int).toNat 0) 0) else (none)) else (none)
theorem tamisref23_Places.mono_l : ∀ k, (∀ y0 y1 y2 y3, LeO (tamisref23_Places.l0 k y0 y1 y2 y3) (tamisref23_Places.l0 (k + 1) y0 y1 y2 y3))
  | 0 => fun _ _ _ _ r h => by simp [tamisref23_Places.l0] at h
  | k + 1 => by
    have ih0 := tamisref23_Places.mono_l k
    · intro y0 y1 y2 y3
      unfold tamisref23_Places.l0
      repeat' first
      | (with_reducible exact ih0 _ _ _ _)
      | (with_reducible exact LeO.refl _)
      | (with_reducible exact LeO.none _)
      | (with_reducible refine LeO.ite ?_ ?_)
      | (with_reducible refine LeO.bind ?_ (fun _ => ?_))
      | exact ih0 _ _ _ _
      | exact LeO.none _
      | refine LeO.ite ?_ ?_
      | refine LeO.bind ?_ (fun _ => ?_)
theorem tamisref23_Places.mono : ∀ a0 a1 k, LeO (tamisref23_Places.f k a0 a1) (tamisref23_Places.f (k + 1) a0 a1) := by
  intro a0 a1 k
  have ih0 := tamisref23_Places.mono_l k
  unfold tamisref23_Places.f
  repeat' first
      | (with_reducible exact ih0 _ _ _ _)
      | (with_reducible exact LeO.refl _)
      | (with_reducible exact LeO.none _)
      | (with_reducible refine LeO.ite ?_ ?_)
      | (with_reducible refine LeO.bind ?_ (fun _ => ?_))
      | exact ih0 _ _ _ _
      | exact LeO.none _
      | refine LeO.ite ?_ ?_
      | refine LeO.bind ?_ (fun _ => ?_)
def tamisref23_Places.T5 : Bool × List (List Nat × List Nat) := (true, [([], []), ([], []), ([1], [1]), ([], []), ([], []), ([3, 4], [3, 4]), ([5], [5]), ([], []), ([], []), ([7, 8], [7, 8]), ([9], [9]), ([], []), ([], []), ([11, 12], [11, 12]), ([13], [13]), ([10, 14], [10, 14]), ([6, 15], [6, 15]), ([0, 2, 0, 1, 2, 3, 4, 5, 6, 7, 8, 9, 10, 11, 12, 13, 14, 15, 16], [0, 2]), ([17, 16, 15, 0, 1, 2, 3, 4, 5, 6, 7, 8, 9, 10, 11, 12, 13, 14, 15, 16], [16, 17])])
def tamisref23_Places.B5 : List Nat := [0, 0, 2, 0, 0, 24, 56, 0, 0, 384, 896, 0, 0, 6144, 14336, 32640, 65528, 131071, 262143]
theorem tamisref23_Places.tab5 : rtab .any (opsOf Try.f57 5) = tamisref23_Places.T5 := by kernel_rfl
theorem tamisref23_Places.bits5 : waitsOk tamisref23_Places.T5.2 tamisref23_Places.B5 = true := by kernel_rfl
set_option maxHeartbeats 8000000 in
set_option maxRecDepth 100000 in
theorem tamisref23_Places.calls (k : Nat) (A0 : Option Addr) (c0 : Nat) (l0 : List (S38)) (A1 : Option Addr) (c1 : Nat) (l1 : List Bool) (r : List Int) (w : World) (hr0 : Kd.C k38 w A0 l0.length l0) (hc0 : l0.length ≤ c0) (hr1 : Kd.C Kd.bool w A1 l1.length l1) (hc1 : l1.length ≤ c1) (h : tamisref23_Places.f k l0 l1 = some r) :
    Calls Try.prog 57 #[.slice A0 l0.length c0, .slice A1 l1.length c1] w fun e w' => ∃ v0_ : Value, e = .returned (v0_) ∧ Kd.R (Kd.int .i64) 3 w' w.heap.size (fun _ => True) v0_ r ∧ Below w.heap.size w w' := by
  have hu38 := Try.underlying38
  have HR0 := Aside0.mk hr0
  have HC0 := Aside0.mk hc0
  clear hr0 hc0
  have HR1 := Aside0.mk hr1
  have HC1 := Aside0.mk hc1
  clear hr1 hc1
  have HB := Aside0.mk (Below.refl w.heap.size w)
  have H : (if 0 ≤ (wrap64 ((l0.length : Int) + 1)) then (if (wrap64 ((l0.length : Int) + 1) : Int).toNat ≤ 35184372088832 then (tamisref23_Places.l0 k l0 l1 (List.replicate (wrap64 ((l0.length : Int) + 1) : Int).toNat 0) 0) else (none)) else (none)) = some r := h
  clear h
  obtain ⟨ji3, hji3⟩ : ∃ j_ : Int, (wrap64 ((l0.length : Int) + 1)) = j_ := ⟨_, rfl⟩
  replace H : (if 0 ≤ (ji3) then (if (ji3 : Int).toNat ≤ 35184372088832 then (tamisref23_Places.l0 k l0 l1 (List.replicate (ji3 : Int).toNat 0) 0) else (none)) else (none)) = some r := by first | (rw [hji3] at H; exact H) | (simp only [hji3] at H ⊢; exact H)
  have hji3w : (IntKind.i64.wrap ((l0.length : Int) + 1)) = ji3 := (i64_w _).trans hji3
  by_cases c4 : 0 ≤ (ji3)
  · rw [if_pos c4] at H
    have c4b0 := eq_true c4
    have c4b1 : decide (0 ≤ (ji3)) = true := decide_eq_true c4
    clear c4
    by_cases c5 : (ji3 : Int).toNat ≤ 35184372088832
    · rw [if_pos c5] at H
      have c5b0 := eq_true c5
      have c5b1 : decide ((ji3 : Int).toNat ≤ 35184372088832) = true := decide_eq_true c5
      clear c5
      obtain ⟨y143, hy143⟩ : ∃ y_ : List Int, y_ = (List.replicate (ji3 : Int).toNat 0) := ⟨_, rfl⟩
      replace H : (tamisref23_Places.l0 k l0 l1 y143 0) = some r := by first | (rw [hy143]; with_reducible exact H) | (have H2_ := (Option.bind_some _ _).symm.trans H; rw [hy143]; with_reducible exact H2_) | (have H2_ := (Option.bind_some _ _).symm.trans H; with_reducible exact H2_) | with_reducible exact H | (rw [hy143]; exact H) | exact H
      have Ny143 := Aside0.mk hy143
      clear hy143
      have H' := Aside0.mk H
      clear H
      go_enter Try.func57, Try.ntmps57
      go_wp2_with (first | ((with_reducible refine gate_dst (N := 10) rfl ?_); refine Kd.R_make (Kd.int .i64) _ 3 rfl (N := 10) rfl 58 _ _ rfl ji3 rfl rfl Try.underlying58 (.int .i64 0) 8 info3 rfl (by decide) (by omega) 0 (ok := fun _ => True) (okp := fun _ => True) rfl (fun _ hk => hk) trivial (of_decide_eq_true (by first | (with_reducible assumption) | assumption)) (Nat.le_trans (Nat.mul_le_mul_right _ (of_decide_eq_true (by first | (with_reducible assumption) | assumption) : ji3.toNat ≤ 35184372088832)) (by omega)) (Below.refl _ _) (Nat.le_refl _) ?_; intro v144 w6 ho7 hb hg_ hnew_; clear hg_ hnew_; (first | rw [← Ny143.out] at ho7 | (simp only [Int.reduceToNat] at ho7; rw [← Ny143.out] at ho7)); have n0_ := Aside0.mk (Kd.R_lower ho7 (below_size (by repeat (first | (with_reducible first | exact HB.out | apply below_alloc | apply pw_below_drewN | apply below_drew1) | exact HB.out)))); have n1_ := Aside0.mk (below_step (by repeat (first | (with_reducible first | exact HB.out | apply below_alloc | apply pw_below_drewN | apply below_drew1) | exact HB.out)) hb); clear HB; have HO145 := n0_; have HB := n1_; clear n0_ n1_; clear hb ho7))
      go_loopg [6] k (fun kq v6 w' => ∃ (x5_1 : List Int) (x6_1 : Int), v6 = .int .i64 x6_1 ∧ Aside0 (tamisref23_Places.l0 kq l0 l1 x5_1 x6_1 = some r) ∧ Aside0 (kq ≤ k) ∧ Aside0 (Kd.R (Kd.int .i64) 3 w' w.heap.size (fun _ => True) v144 x5_1) ∧ Aside0 (Below w.heap.size w w'))
      case atStart => exact ⟨(y143), (0), (by first | rfl | (simp; done) | (simp [*]; done)), H', ⟨Nat.le_refl _⟩, ⟨by (with_reducible repeat (first | apply Kd.R_alloc | apply Kd.R_drewN | apply Kd.R_drew)); exact HO145.out⟩, ⟨by repeat (first | (with_reducible first | exact HB.out | apply below_alloc | apply pw_below_drewN | apply below_drew1) | exact HB.out)⟩⟩
      case round =>
        clear H'
        try clear c1
        try clear p2
        try clear c4
        try clear c4b0
        try clear c4b1
        try clear c5
        try clear c5b0
        try clear c5b1
        try clear p6
        obtain ⟨x5_1, x6_1, rfl, HA, HK1, HO_5, HB⟩ := hrel
        cases gk with
        | zero => exact absurd HA.out (by simp [tamisref23_Places.l0])
        | succ k1 =>
          have H := HA.out
          clear HA
          simp only [tamisref23_Places.l0] at H
          by_cases c8 : x6_1 < (l0.length : Int)
          · rw [if_pos c8] at H
            have c8b0 : decide (x6_1 < (l0.length : Int)) = true := decide_eq_true c8
            clear c8
            by_cases c9 : 0 ≤ x6_1
            · rw [if_pos c9] at H
              have c9b0 : decide (0 ≤ x6_1) = true := decide_eq_true c9
              clear c9
              by_cases c10 : x6_1 < (x5_1.length : Int)
              · rw [if_pos c10] at H
                have c10b0 : decide (x6_1 < (x5_1.length : Int)) = true := decide_eq_true c10
                clear c10
                by_cases c11 : x6_1 < (l1.length : Int)
                · rw [if_pos c11] at H
                  have c11b0 : decide (x6_1 < (l1.length : Int)) = true := decide_eq_true c11
                  clear c11
                  replace H := Option.bind_eq_some_iff.mp H
                  obtain ⟨t149, A120, H⟩ := H
                  replace H : (if 0 ≤ (wrap64 (x6_1 + 1)) then (if (wrap64 (x6_1 + 1)) < (x5_1.length : Int) then (tamisref23_Places.l0 k1 l0 l1 (x5_1.set ((wrap64 (x6_1 + 1)) : Int).toNat (wrap64 ((rd x5_1 x6_1) + t149))) (wrap64 (x6_1 + 1))) else (none)) else (none)) = some r := H
                  have A12 := Aside0.mk A120
                  clear A120
                  obtain ⟨ji13, hji13⟩ : ∃ j_ : Int, (wrap64 (x6_1 + 1)) = j_ := ⟨_, rfl⟩
                  replace H : (if 0 ≤ (ji13) then (if (ji13) < (x5_1.length : Int) then (tamisref23_Places.l0 k1 l0 l1 (x5_1.set ((ji13) : Int).toNat (wrap64 ((rd x5_1 x6_1) + t149))) ji13) else (none)) else (none)) = some r := by first | (rw [hji13] at H; exact H) | (simp only [hji13] at H ⊢; exact H)
                  (try rw [hji13] at A12)
                  have hji13w : (IntKind.i64.wrap (x6_1 + 1)) = ji13 := (i64_w _).trans hji13
                  by_cases c14 : 0 ≤ (ji13)
                  · rw [if_pos c14] at H
                    have c14b0 : decide (0 ≤ (ji13)) = true := decide_eq_true c14
                    clear c14
                    by_cases c15 : (ji13) < (x5_1.length : Int)
                    · rw [if_pos c15] at H
                      have c15b0 : decide ((ji13) < (x5_1.length : Int)) = true := decide_eq_true c15
                      clear c15
                      obtain ⟨y150, hy150⟩ : ∃ y_ : List Int, y_ = (x5_1.set ((ji13) : Int).toNat (wrap64 ((rd x5_1 x6_1) + t149))) := ⟨_, rfl⟩
                      replace H : (tamisref23_Places.l0 k1 l0 l1 y150 ji13) = some r := by first | (rw [hy150]; with_reducible exact H) | (have H2_ := (Option.bind_some _ _).symm.trans H; rw [hy150]; with_reducible exact H2_) | (have H2_ := (Option.bind_some _ _).symm.trans H; with_reducible exact H2_) | with_reducible exact H | (rw [hy150]; exact H) | exact H
                      have Ny150 := Aside0.mk hy150
                      clear hy150
                      have H' := Aside0.mk H
                      clear H
                      try go_wp2
                      have n0_ := Aside0.mk (Kd.R_drew HO_5.out)
                      have n1_ := Aside0.mk (below_drew1 HB.out)
                      clear HO_5
                      clear HB
                      have HO_5 := n0_
                      have HB := n1_
                      clear n0_ n1_
                      obtain ⟨Ao18, co18, eo18⟩ := Kd.R_slice HO_5.out
                      (first | subst eo18 | (injection eo18 with f1_ f2_ f3_; have f4_ := f1_.symm; have f5_ := f3_.symm; clear f1_ f2_ f3_; subst f4_; subst f5_))
                      have p146 : 0 ≤ (x6_1 : Int) := of_decide_eq_true (by first | (with_reducible assumption) | assumption)
                      have q146 : x6_1 < (x5_1.length : Int) := of_decide_eq_true (by first | (with_reducible assumption) | assumption)
                      obtain ⟨ad146, e146, hx146_0⟩ := Kd.at_int (Kd.R_reads' HO_5.out).2.2 x6_1 p146 q146
                      cases e146
                      replace p146 := eq_true p146
                      replace q146 := eq_true q146
                      have p147 : 0 ≤ (x6_1 : Int) := of_decide_eq_true (by first | (with_reducible assumption) | assumption)
                      have q147 : x6_1 < (l0.length : Int) := of_decide_eq_true (by first | (with_reducible assumption) | assumption)
                      obtain ⟨ad147, e147, hx147_0, hx147_1, hx147_2, hx147_3, hx147_4⟩ := at_T38 HR0.out x6_1 p147 q147
                      have hw147_4 := hx147_4
                      have hw147_3 := hx147_3
                      have hw147_2 := hx147_2
                      have hw147_1 := hx147_1
                      have hw147_0 := hx147_0
                      cases e147
                      replace hx147_0 := (HB.out.cell (World.block_lt_of_cell? w _ hx147_0)).trans hx147_0
                      replace hx147_1 := (HB.out.cell (World.block_lt_of_cell? w _ hx147_1)).trans hx147_1
                      replace hx147_2 := (HB.out.cell (World.block_lt_of_cell? w _ hx147_2)).trans hx147_2
                      replace hx147_3 := (HB.out.cell (World.block_lt_of_cell? w _ hx147_3)).trans hx147_3
                      replace hx147_4 := (HB.out.cell (World.block_lt_of_cell? w _ hx147_4)).trans hx147_4
                      replace p147 := eq_true p147
                      replace q147 := eq_true q147
                      have p148 : 0 ≤ (x6_1 : Int) := of_decide_eq_true (by first | (with_reducible assumption) | assumption)
                      have q148 : x6_1 < (l1.length : Int) := of_decide_eq_true (by first | (with_reducible assumption) | assumption)
                      obtain ⟨ad148, e148, hx148_0⟩ := Kd.at_bool HR1.out x6_1 p148 q148
                      have hw148_0 := hx148_0
                      cases e148
                      replace hx148_0 := (HB.out.cell (World.block_lt_of_cell? w _ hx148_0)).trans hx148_0
                      replace p148 := eq_true p148
                      replace q148 := eq_true q148
                      refine start_ (n := 19) (S := fun w' => w'.cell? (ad146.add (x6_1).toNat) = some (.int .i64 (rd x5_1 x6_1)) ∧ w'.cell? (ad147.add ((x6_1).toNat * 5)) = some (.int .i64 ((rd_T38 l0 x6_1).f0)) ∧ w'.cell? ⟨(ad147.add ((x6_1).toNat * 5)).block, (ad147.add ((x6_1).toNat * 5)).off + 1, none⟩ = some (.int .u16 ((rd_T38 l0 x6_1).f1)) ∧ w'.cell? ⟨(ad147.add ((x6_1).toNat * 5)).block, (ad147.add ((x6_1).toNat * 5)).off + 2, none⟩ = some (.int .u32 ((rd_T38 l0 x6_1).f2)) ∧ w'.cell? ⟨(ad147.add ((x6_1).toNat * 5)).block, (ad147.add ((x6_1).toNat * 5)).off + 3, none⟩ = some (.int .i64 ((rd_T38 l0 x6_1).f3)) ∧ w'.cell? ⟨(ad147.add ((x6_1).toNat * 5)).block, (ad147.add ((x6_1).toNat * 5)).off + 4, none⟩ = some (.int .i64 ((rd_T38 l0 x6_1).f4)) ∧ w'.cell? (ad148.add (x6_1).toNat) = some (.bool (rdOf false l1 x6_1))) (ds := [18]) #[false, false, false, false, false, false, false, false, false, false, false, false, false, false, false, false, false, false, false] (by kernel_rfl) rfl rfl ⟨hx146_0, ((HB.out.cell (World.block_lt_of_cell? w _ hw147_0)).trans hw147_0), ((HB.out.cell (World.block_lt_of_cell? w _ hw147_1)).trans hw147_1), ((HB.out.cell (World.block_lt_of_cell? w _ hw147_2)).trans hw147_2), ((HB.out.cell (World.block_lt_of_cell? w _ hw147_3)).trans hw147_3), ((HB.out.cell (World.block_lt_of_cell? w _ hw147_4)).trans hw147_4), ((HB.out.cell (World.block_lt_of_cell? w _ hw148_0)).trans hw148_0)⟩ (fun hHeld => ?_); refine with_tabW tamisref23_Places.tab5 tamisref23_Places.bits5 (fun HT_ HW_ => ?_)
                      generalize wr.drew = w17 at HO_5 HB hx146_0 hx147_0 hx147_1 hx147_2 hx147_3 hx147_4 hx148_0 hHeld ⊢
                      refine pure_ (i := 0) (N := some 17) (v := ?_) (a' := ?_) #[true, false, false, false, false, false, false, false, false, false, false, false, false, false, false, false, false, false, false] rfl rfl (any_of HT_.out (by kernel_rfl)) (fun _ _ _ h => h) (Or.inl ⟨by rfl, ?_⟩) ?_ ?_
                      rotate_left
                      · intro w'
                        go_simp
                        with_reducible rfl
                      rotate_left
                      · simp only [Act.put, List.setIfInBounds_toArray, List.set_cons_zero, List.set_cons_succ, i64_w, i32_w]
                        rfl
                      refine pure_ (i := 1) (N := some 18) (v := ?_) (a' := ?_) #[true, true, false, false, false, false, false, false, false, false, false, false, false, false, false, false, false, false, false] rfl rfl (any_of HT_.out (by kernel_rfl)) (fun _ _ _ h => h) (Or.inl ⟨by rfl, ?_⟩) ?_ ?_
                      rotate_left
                      · intro w'
                        go_simp
                        with_reducible rfl
                      rotate_left
                      · simp only [Act.put, List.setIfInBounds_toArray, List.set_cons_zero, List.set_cons_succ, i64_w, i32_w]
                        rfl
                      refine pure_ (i := 2) (N := some 19) (v := ?_) (a' := ?_) #[true, true, true, false, false, false, false, false, false, false, false, false, false, false, false, false, false, false, false] rfl rfl (any_of HT_.out (by kernel_rfl)) (fun _ _ _ h => h) (Or.inl ⟨by rfl, ?_⟩) ?_ ?_
                      rotate_left
                      · intro w'
                        go_simp
                        with_reducible rfl
                      rotate_left
                      · simp only [Act.put, List.setIfInBounds_toArray, List.set_cons_zero, List.set_cons_succ, i64_w, i32_w]
                        rfl
                      refine pure_ (i := 3) (N := some 20) (v := ?_) (a' := ?_) #[true, true, true, true, false, false, false, false, false, false, false, false, false, false, false, false, false, false, false] rfl rfl (any_of HT_.out (by kernel_rfl)) (fun _ _ _ h => h) (Or.inl ⟨by rfl, ?_⟩) ?_ ?_
                      rotate_left
                      · intro w'
                        go_simp
                        with_reducible rfl
                      rotate_left
                      · simp only [Act.put, List.setIfInBounds_toArray, List.set_cons_zero, List.set_cons_succ, i64_w, i32_w]
                        rfl
                      refine pure_ (i := 4) (N := some 21) (v := ?_) (a' := ?_) #[true, true, true, true, true, false, false, false, false, false, false, false, false, false, false, false, false, false, false] rfl rfl (any_of HT_.out (by kernel_rfl)) (fun _ _ _ h => h) (Or.inl ⟨by rfl, ?_⟩) ?_ ?_
                      rotate_left
                      · intro w'
                        go_simp
                        with_reducible rfl
                      rotate_left
                      · simp only [Act.put, List.setIfInBounds_toArray, List.set_cons_zero, List.set_cons_succ, i64_w, i32_w]
                        rfl
                      refine pure_ (i := 5) (N := some 22) (v := ?_) (a' := ?_) #[true, true, true, true, true, true, false, false, false, false, false, false, false, false, false, false, false, false, false] rfl rfl (any_of HT_.out (by kernel_rfl)) (fun _ _ _ h => h) (Or.inl ⟨by rfl, ?_⟩) ?_ ?_
                      rotate_left
                      · intro w'
                        go_simp
                        with_reducible rfl
                      rotate_left
                      · simp only [Act.put, List.setIfInBounds_toArray, List.set_cons_zero, List.set_cons_succ, i64_w, i32_w]
                        rfl
                      refine pure_ (i := 7) (N := some 24) (v := ?_) (a' := ?_) #[true, true, true, true, true, true, false, true, false, false, false, false, false, false, false, false, false, false, false] rfl rfl (any_of HT_.out (by kernel_rfl)) (fun _ _ _ h => h) (Or.inl ⟨by rfl, ?_⟩) ?_ ?_
                      rotate_left
                      · intro w'
                        go_simp
                        with_reducible rfl
                      rotate_left
                      · simp only [Act.put, List.setIfInBounds_toArray, List.set_cons_zero, List.set_cons_succ, i64_w, i32_w]
                        rfl
                      refine pure_ (i := 8) (N := some 25) (v := ?_) (a' := ?_) #[true, true, true, true, true, true, false, true, true, false, false, false, false, false, false, false, false, false, false] rfl rfl (any_of HT_.out (by kernel_rfl)) (fun _ _ _ h => h) (Or.inl ⟨by rfl, ?_⟩) ?_ ?_
                      rotate_left
                      · intro w'
                        go_simp
                        with_reducible rfl
                      rotate_left
                      · simp only [Act.put, List.setIfInBounds_toArray, List.set_cons_zero, List.set_cons_succ, i64_w, i32_w]
                        rfl
                      refine pure_ (i := 9) (N := some 26) (v := ?_) (a' := ?_) #[true, true, true, true, true, true, false, true, true, true, false, false, false, false, false, false, false, false, false] rfl rfl (any_of HT_.out (by kernel_rfl)) (fun _ _ _ h => h) (Or.inl ⟨by rfl, ?_⟩) ?_ ?_
                      rotate_left
                      · intro w'
                        go_simp
                        with_reducible rfl
                      rotate_left
                      · simp only [Act.put, List.setIfInBounds_toArray, List.set_cons_zero, List.set_cons_succ, i64_w, i32_w]
                        rfl
                      refine pure_ (i := 11) (N := some 28) (v := ?_) (a' := ?_) #[true, true, true, true, true, true, false, true, true, true, false, true, false, false, false, false, false, false, false] rfl rfl (any_of HT_.out (by kernel_rfl)) (fun _ _ _ h => h) (Or.inl ⟨by rfl, ?_⟩) ?_ ?_
                      rotate_left
                      · intro w'
                        go_simp
                        with_reducible rfl
                      rotate_left
                      · simp only [Act.put, List.setIfInBounds_toArray, List.set_cons_zero, List.set_cons_succ, i64_w, i32_w]
                        rfl
                      refine pure_ (i := 12) (N := some 29) (v := ?_) (a' := ?_) #[true, true, true, true, true, true, false, true, true, true, false, true, true, false, false, false, false, false, false] rfl rfl (any_of HT_.out (by kernel_rfl)) (fun _ _ _ h => h) (Or.inl ⟨by rfl, ?_⟩) ?_ ?_
                      rotate_left
                      · intro w'
                        go_simp
                        with_reducible rfl
                      rotate_left
                      · simp only [Act.put, List.setIfInBounds_toArray, List.set_cons_zero, List.set_cons_succ, i64_w, i32_w]
                        rfl
                      refine pure_ (i := 13) (N := some 30) (v := ?_) (a' := ?_) #[true, true, true, true, true, true, false, true, true, true, false, true, true, true, false, false, false, false, false] rfl rfl (any_of HT_.out (by kernel_rfl)) (fun _ _ _ h => h) (Or.inl ⟨by rfl, ?_⟩) ?_ ?_
                      rotate_left
                      · intro w'
                        go_simp
                        with_reducible rfl
                      rotate_left
                      · simp only [Act.put, List.setIfInBounds_toArray, List.set_cons_zero, List.set_cons_succ, i64_w, i32_w]
                        rfl
                      refine take_ (i := 6) (N := some 23) (v := ?_) (a' := ?_) #[true, true, true, true, true, true, true, true, true, true, false, true, true, true, false, false, false, false, false] rfl rfl (take_ofW HT_.out HW_.out (by kernel_rfl)) (fun _ _ _ h => h) (Or.inl ⟨by rfl, ?_⟩) hHeld ?_ ?_
                      rotate_left
                      · rintro w' ⟨s0, s1, s2, s3, s4, s5, s6⟩
                        go_simp
                        with_reducible rfl
                      rotate_left
                      · simp only [Act.put, List.setIfInBounds_toArray, List.set_cons_zero, List.set_cons_succ, i64_w, i32_w]
                        rfl
                      refine take_ (i := 10) (N := some 27) (v := ?_) (a' := ?_) #[true, true, true, true, true, true, true, true, true, true, true, true, true, true, false, false, false, false, false] rfl rfl (take_ofW HT_.out HW_.out (by kernel_rfl)) (fun _ _ _ h => h) (Or.inl ⟨by rfl, ?_⟩) hHeld ?_ ?_
                      rotate_left
                      · rintro w' ⟨s0, s1, s2, s3, s4, s5, s6⟩
                        go_simp
                        with_reducible rfl
                      rotate_left
                      · simp only [Act.put, List.setIfInBounds_toArray, List.set_cons_zero, List.set_cons_succ, i64_w, i32_w]
                        rfl
                      refine take_ (i := 14) (N := some 31) (v := ?_) (a' := ?_) #[true, true, true, true, true, true, true, true, true, true, true, true, true, true, true, false, false, false, false] rfl rfl (take_ofW HT_.out HW_.out (by kernel_rfl)) (fun _ _ _ h => h) (Or.inl ⟨by rfl, ?_⟩) hHeld ?_ ?_
                      rotate_left
                      · rintro w' ⟨s0, s1, s2, s3, s4, s5, s6⟩
                        go_simp
                        with_reducible rfl
                      rotate_left
                      · simp only [Act.put, List.setIfInBounds_toArray, List.set_cons_zero, List.set_cons_succ, i64_w, i32_w]
                        rfl
                      refine one_ (i := 15) (N := some 32) #[true, true, true, true, true, true, true, true, true, true, true, true, true, true, true, true, false, false, false] rfl rfl (one_of HT_.out (by kernel_rfl)) (by decide) (fun K hK => ?_)
                      refine goes_ Try.func91 (by kernel_rfl) rfl #[.agg #[.int .i64 ((rd_T38 l0 x6_1).f0), .int .u16 ((rd_T38 l0 x6_1).f1), .int .u32 ((rd_T38 l0 x6_1).f2), .int .i64 ((rd_T38 l0 x6_1).f3), .int .i64 ((rd_T38 l0 x6_1).f4)], .bool (rdOf false l1 x6_1)] (by rfl) rfl rfl (by (try simp only [List.map_toArray, List.map_cons, List.map_nil]); first | done | rfl | (simp only [List.length_drop, List.length_take]; rfl)) ?_
                      with_reducible refine (tamisref23_width.calls ((rd_T38 l0 x6_1).f0) ((rd_T38 l0 x6_1).f1) ((rd_T38 l0 x6_1).f2) ((rd_T38 l0 x6_1).f3) ((rd_T38 l0 x6_1).f4) (rdOf false l1 x6_1) t149 _ A12.out).mono ?_
                      rintro e w19 ⟨rfl, hb⟩
                      have HS0_ := (hb.cell (World.block_lt_of_cell? _ _ (hHeld.1))).trans (hHeld.1)
                      refine ⟨_, rfl, ?_⟩
                      have n0_ := Aside0.mk (Kd.R_below (by (with_reducible repeat (first | apply Kd.R_alloc | apply Kd.R_drewN | apply Kd.R_drew)); exact HO_5.out) hb)
                      have n1_ := Aside0.mk (below_step (by repeat (first | (with_reducible first | exact HB.out | apply below_alloc | apply pw_below_drewN | apply below_drew1) | exact HB.out)) hb)
                      clear HO_5
                      clear HB
                      have HO_5 := n0_
                      have HB := n1_
                      clear n0_ n1_
                      (try clear hb)
                      (try clear hb2)
                      (try clear hk)
                      (try clear hi)
                      have p16 : 0 ≤ ((ji13) : Int) := of_decide_eq_true (by first | (with_reducible assumption) | assumption)
                      have q16 : ((ji13) : Int) < ((x5_1.length : Int) : Int) := of_decide_eq_true (by first | (with_reducible assumption) | assumption)
                      obtain ⟨go16, co16, eo16, gb16, gl16, cl16, HG16⟩ := Kd.R_form HO_5.out (by omega)
                      (first | cases eo16 | (injection eo16 with ea_ en_ ec_; (first | subst ea_ | (injection ea_ with ea_; subst ea_)); subst ec_; clear en_))
                      have GB16 := Aside0.mk gb16
                      have GG16 := Aside0.mk HG16
                      clear gb16 gl16 HG16
                      (first | simp only [add_plain] at hx146_0 | skip)
                      obtain ⟨hx16_0, hf16_0⟩ := Kd.R_celln 0 HO_5.out ((ji13) : Int) p16 q16
                      replace p16 := eq_true p16
                      replace q16 := eq_true q16
                      have HP20 := Kd.R_putn HO_5.out ((ji13) : Int) (wrap64 ((rd x5_1 x6_1) + t149))
                      rw [← Ny150.out] at HP20
                      have HQ20 := Aside0.mk HP20
                      clear HP20
                      refine hK.out _ _ ⟨HS0_, ((HB.out.cell (World.block_lt_of_cell? w _ hw147_0)).trans hw147_0), ((HB.out.cell (World.block_lt_of_cell? w _ hw147_1)).trans hw147_1), ((HB.out.cell (World.block_lt_of_cell? w _ hw147_2)).trans hw147_2), ((HB.out.cell (World.block_lt_of_cell? w _ hw147_3)).trans hw147_3), ((HB.out.cell (World.block_lt_of_cell? w _ hw147_4)).trans hw147_4), ((HB.out.cell (World.block_lt_of_cell? w _ hw148_0)).trans hw148_0)⟩ (fun hHeld => ?_)
                      clear hK K
                      refine norm_ (a' := ?_) ?_ ?_
                      rotate_left
                      · show Act.put _ (some 32) _ = _
                        simp only [Act.put, List.setIfInBounds_toArray, List.set_cons_zero, List.set_cons_succ, i64_w, i32_w]
                        rfl
                      refine pure_ (i := 16) (N := some 33) (v := ?_) (a' := ?_) #[true, true, true, true, true, true, true, true, true, true, true, true, true, true, true, true, true, false, false] rfl rfl (any_of HT_.out (by kernel_rfl)) (fun _ _ _ h => h) (Or.inl ⟨by rfl, ?_⟩) ?_ ?_
                      rotate_left
                      · intro w'
                        go_simp
                        with_reducible rfl
                      rotate_left
                      · simp only [Act.put, List.setIfInBounds_toArray, List.set_cons_zero, List.set_cons_succ, i64_w, i32_w]
                        rfl
                      refine pure_ (i := 17) (N := some 34) (v := ?_) (a' := ?_) #[true, true, true, true, true, true, true, true, true, true, true, true, true, true, true, true, true, true, false] rfl rfl (any_of HT_.out (by kernel_rfl)) (fun _ _ _ h => h) (Or.inl ⟨by rfl, ?_⟩) ?_ ?_
                      rotate_left
                      · intro w'
                        go_simp
                        with_reducible rfl
                      rotate_left
                      · simp only [Act.put, List.setIfInBounds_toArray, List.set_cons_zero, List.set_cons_succ, i64_w, i32_w]
                        rfl
                      refine last_ (i := 18) (N := none) #[true, true, true, true, true, true, true, true, true, true, true, true, true, true, true, true, true, true, true] rfl rfl (one_of HT_.out (by kernel_rfl)) (by decide) (fun K hK => ?_)
                      refine skip_ (w1 := ?_) (by rfl) rfl ?_ ?_
                      rotate_left
                      · go_simp
                        rfl
                      refine hK.out _ _ ?_
                      clear hK K
                      refine done_ (done_of HT_.out (by kernel_rfl)) ?_
                      try go_wp2
                      go_roundg k1
                      case measure => have := HK1.out; omega
                      case rel => exact ⟨(y150), (ji13), (by first | rfl | (simp; done) | (simp only [← hji13] <;> (first | rfl | simp)) | (simp [*]; done)), H', ⟨by have := HK1.out; omega⟩, ⟨by (with_reducible repeat (first | apply Kd.R_alloc | apply Kd.R_drewN | apply Kd.R_drew)); exact HQ20.out⟩, ⟨by repeat (first | (with_reducible first | exact HB.out | apply below_alloc | apply pw_below_drewN | apply below_drew1 | refine below_set ?_ GB16.out) | exact HB.out)⟩⟩
                    · rw [if_neg c15] at H
                      exact absurd H (by simp)
                  · rw [if_neg c14] at H
                    exact absurd H (by simp)
                · rw [if_neg c11] at H
                  exact absurd H (by simp)
              · rw [if_neg c10] at H
                exact absurd H (by simp)
            · rw [if_neg c9] at H
              exact absurd H (by simp)
          · rw [if_neg c8] at H
            have c8b0 : decide (x6_1 < (l0.length : Int)) = false := decide_eq_false c8
            clear c8
            obtain rfl := Option.some.inj H
            go_wp2
            go_ret
            exact ⟨_, by first | rfl | (simp [errW_none, errW_some] <;> rfl) | (simp only [← hji3]; first | rfl | (simp [errW_none, errW_some] <;> rfl)) | (simp [*, errW_none, errW_some] <;> rfl), by (with_reducible repeat (first | apply Kd.R_alloc | apply Kd.R_drewN | apply Kd.R_drew)); exact HO_5.out, by repeat (first | (with_reducible first | exact HB.out | apply below_alloc | apply pw_below_drewN | apply below_drew1) | exact HB.out)⟩
    · rw [if_neg c5] at H
      exact absurd H (by simp)
  · rw [if_neg c4] at H
    exact absurd H (by simp)

end Go.Proofs.Ytmjpibeiglicdaa.E
