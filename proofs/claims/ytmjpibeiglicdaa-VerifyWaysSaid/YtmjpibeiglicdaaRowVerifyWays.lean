/- The row of the law VerifyWays: the law's call returns true, whatever the input, and leaves its arguments as they read. -/
import Derived.Test.YtmjpibeiglicdaaRows
import Derived.Test.YtmjpibeiglicdaaX11
import Derived.Test.YtmjpibeiglicdaaArgC
import Derived.Test.YtmjpibeiglicdaaPureVerifyWays
import Derived.Test.YtmjpibeiglicdaaClosedVerifyWays
import Derived.WalkKit
import Derived.ProofKit
import Derived.OpenShut
import Derived.ShutString
import Derived.ChangeOld
import Derived.Below
import Derived.SizedLaws
import Derived.Carry
import Derived.JoinedOf
namespace Go.Proofs.Ytmjpibeiglicdaa.verifyWays
open Go.ChangeShapes Go.WideShapes Go.ChangeAt Go.RowKit Go.Proofs.Ytmjpibeiglicdaa.X Go.Proofs.YtmjpibeiglicdaaW.PrintWords
set_option linter.unusedVariables false
theorem own : ownKnob Try.prog.godebug = none := by kernel_rfl
theorem laidOut : laidOutB Try.prog = true := by kernel_rfl
set_option maxRecDepth 100000 in
theorem lifted (os : Os) (started : os.Started) (H : Type) (enc : TypeId × Value → H) :
    ReturnsInHanded {} Try.checked os 7 .any (Rows.verifyWaysSpec.pre6 enc Try.prog Try.f7 Rows.verifyWaysRow.domain false) (Rows.verifyWaysSpec.post enc Try.prog Try.f7 false true false false) := by
  refine returnsInHanded_of_change_sized (C := Try.checked) own started (by kernel_rfl) Try.func7
    (ChangeSpec.witness6 (enc := enc) (C := Try.checked) false ⟨#[], #[.slice none 0 0, .slice none 0 0], []⟩ 8 (by kernel_rfl) (by kernel_rfl) (by kernel_rfl) (by kernel_rfl)) ?_
  intro W base args ds gs before hval0 hW hcnd hsz0 _
  have hval : ∀ (j : Nat) t v, Try.f7.params[j]? = some t → args[j]? = some v → Value.okWide Try.prog W .any base t v := hval0
  have hW' := hW
  obtain ⟨p, q, hA0, hV, rfl, hfz, hnd⟩ := hW
  have hA : DataW.TrodAll enc Try.prog W 0 (fun _ => true) true Try.f7.params.toList args.toList ds p := hA0
  rw [Try.params7] at hA hval
  obtain ⟨v0, vs0, d0, ds0, p0, q0, hargs, rfl, rfl, h0, r0⟩ := trodAll_cons hA
  obtain ⟨v1, vs1, d1, ds1, p1, q1, rfl, rfl, rfl, h1, r1⟩ := trodAll_cons r0
  obtain ⟨rfl, rfl, rfl⟩ := trodAll_nil r1
  obtain rfl : args = #[v0, v1] := by cases args; simp_all
  obtain ⟨rfl, rfl⟩ := trodVars_none hV
  have k0 := h0
  have lt0 : ∀ x ∈ p0, x.block < W.heap.size := by obtain ⟨m, hm⟩ := k0; exact DataW.trod_lt m _ _ _ hm
  obtain ⟨A0, c0, l0, rfl, hc0, hm0, hC0, hw0⟩ := open45 (hval 0 45 v0 rfl rfl) h0
  have k1 := h1
  have lt1 : ∀ x ∈ p1, x.block < W.heap.size := by obtain ⟨m, hm⟩ := k1; exact DataW.trod_lt m _ _ _ hm
  obtain ⟨A1, c1, l1, rfl, hc1, hm1, hC1, hw1⟩ := open54 (hval 1 54 v1 rfl rfl) h1
  clear hA0 hval0 hsz0
  obtain ⟨k, hk⟩ := Pure.VerifyWays l0 hw0 l1 hw1
  refine (X.tamislaw06_VerifyWays.calls k A0 c0 l0 A1 c1 l1 true W hC0 hc0 hC1 hc1 hk).mono fun e W' ⟨he, bel⟩ => ?_
  subst he
  exact ⟨_, rfl, _, _, _, [], _, [], hW', trodAll_mk1 (shut_bool Try.underlying4 _), (trodAll_cons_mk (Below.trod laidOut (by kernel_rfl) (of_decide_eq_true (by kernel_rfl)) k0 bel lt0) (trodAll_cons_mk (Below.trod laidOut (by kernel_rfl) (of_decide_eq_true (by kernel_rfl)) k1 bel lt1) trodAll_mk0)), rfl, bel.frame _, fun h => by cases h⟩
theorem closed : joinedFacts Try.pinned.checked.prog 7 Try.f7 Rows.verifyWaysSpec Rows.verifyWaysRow = true := Closed.verifyWays
theorem named : Try.pinned.checked.prog.funcNamed Rows.verifyWaysRow.func = some 7 := by kernel_rfl
theorem inst : Try.f7.isInstance Try.pinned.checked.prog Rows.verifyWaysRow.origin Rows.verifyWaysRow.targs := of_decide_eq_true (by kernel_rfl)
theorem wrapper : Try.f7.isWrapper Try.pinned.checked.prog Rows.verifyWaysRow.wrapper Rows.verifyWaysRow.mainSum := by unfold Func.isWrapper; first | (rw [if_pos (by decide +kernel)]; kernel_rfl) | (rw [if_neg (by decide +kernel)]; exact ⟨rfl, rfl⟩)
theorem over : Rows.verifyWaysRow.holds Try.pinned (OpenSpec.ofChange Rows.verifyWaysSpec) :=
  OpenClaim.holds_of_wide 7 Try.f7 rfl rfl rfl rfl rfl rfl rfl ⟨rfl, rfl, rfl, rfl, rfl⟩ rfl rfl rfl rfl rfl named Try.func7 closed inst wrapper
    (fun os started H enc _ => lifted os started H enc)
theorem proved : Rows.VerifyWaysSaid := over
#print axioms proved
end Go.Proofs.Ytmjpibeiglicdaa.verifyWays
namespace Go.Proofs.Ytmjpibeiglicdaa
/-- The row, under a short name, for the claim. -/
theorem verifyWays_holds : Rows.VerifyWaysSaid := verifyWays.proved
end Go.Proofs.Ytmjpibeiglicdaa
