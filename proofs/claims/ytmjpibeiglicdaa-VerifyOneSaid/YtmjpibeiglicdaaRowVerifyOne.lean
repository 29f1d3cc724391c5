/- The row of the law VerifyOne: the law's call returns true, whatever the input, and leaves its arguments as they read. -/
import Derived.Test.YtmjpibeiglicdaaRows
import Derived.Test.YtmjpibeiglicdaaX12
import Derived.Test.YtmjpibeiglicdaaArgB
import Derived.Test.YtmjpibeiglicdaaPureVerifyOne
import Derived.Test.YtmjpibeiglicdaaClosedVerifyOne
import Derived.WalkKit
import Derived.ProofKit
import Derived.OpenShut
import Derived.ShutString
import Derived.ChangeOld
import Derived.Below
import Derived.SizedLaws
import Derived.Carry
import Derived.JoinedOf
namespace Go.Proofs.Ytmjpibeiglicdaa.verifyOne
open Go.ChangeShapes Go.WideShapes Go.ChangeAt Go.RowKit Go.Proofs.Ytmjpibeiglicdaa.X Go.Proofs.YtmjpibeiglicdaaW.PrintWords
set_option linter.unusedVariables false
theorem own : ownKnob Try.prog.godebug = none := by kernel_rfl
theorem laidOut : laidOutB Try.prog = true := by kernel_rfl
set_option maxRecDepth 100000 in
theorem lifted (os : Os) (started : os.Started) (H : Type) (enc : TypeId × Value → H) :
    ReturnsInHanded {} Try.checked os 9 .any (Rows.verifyOneSpec.pre6 enc Try.prog Try.f9 Rows.verifyOneRow.domain false) (Rows.verifyOneSpec.post enc Try.prog Try.f9 false true false false) := by
  refine returnsInHanded_of_change_sized (C := Try.checked) own started (by kernel_rfl) Try.func9
    (ChangeSpec.witness6 (enc := enc) (C := Try.checked) false ⟨#[], #[.agg #[.int .u16 0, .int .u8 0, .int .u8 0, .int .u32 0]], []⟩ 8 (by kernel_rfl) (by kernel_rfl) (by kernel_rfl) (by kernel_rfl)) ?_
  intro W base args ds gs before hval0 hW hcnd hsz0 _
  have hval : ∀ (j : Nat) t v, Try.f9.params[j]? = some t → args[j]? = some v → Value.okWide Try.prog W .any base t v := hval0
  have hW' := hW
  obtain ⟨p, q, hA0, hV, rfl, hfz, hnd⟩ := hW
  have hA : DataW.TrodAll enc Try.prog W 0 (fun _ => true) true Try.f9.params.toList args.toList ds p := hA0
  rw [Try.params9] at hA hval
  obtain ⟨v0, vs0, d0, ds0, p0, q0, hargs, rfl, rfl, h0, r0⟩ := trodAll_cons hA
  obtain ⟨rfl, rfl, rfl⟩ := trodAll_nil r0
  obtain rfl : args = #[v0] := by cases args; simp_all
  obtain ⟨rfl, rfl⟩ := trodVars_none hV
  have k0 := h0
  have lt0 : ∀ x ∈ p0, x.block < W.heap.size := by obtain ⟨m, hm⟩ := k0; exact DataW.trod_lt m _ _ _ hm
  obtain ⟨a0_0, a0_1, a0_2, a0_3, rfl, w0⟩ := openA56 (hval 0 56 v0 rfl rfl) h0
  clear hA0 hval0 hsz0
  obtain ⟨k, hk⟩ := Pure.VerifyOne a0_0 a0_1 a0_2 a0_3 w0
  refine (X.tamislaw06_VerifyOne.calls k a0_0 a0_1 a0_2 a0_3 true W  hk).mono fun e W' ⟨he, bel⟩ => ?_
  subst he
  exact ⟨_, rfl, _, _, _, [], _, [], hW', trodAll_mk1 (shut_bool Try.underlying4 _), (trodAll_cons_mk (Below.trod laidOut (by kernel_rfl) (of_decide_eq_true (by kernel_rfl)) k0 bel lt0) trodAll_mk0), rfl, bel.frame _, fun h => by cases h⟩
theorem closed : joinedFacts Try.pinned.checked.prog 9 Try.f9 Rows.verifyOneSpec Rows.verifyOneRow = true := Closed.verifyOne
theorem named : Try.pinned.checked.prog.funcNamed Rows.verifyOneRow.func = some 9 := by kernel_rfl
theorem inst : Try.f9.isInstance Try.pinned.checked.prog Rows.verifyOneRow.origin Rows.verifyOneRow.targs := of_decide_eq_true (by kernel_rfl)
theorem wrapper : Try.f9.isWrapper Try.pinned.checked.prog Rows.verifyOneRow.wrapper Rows.verifyOneRow.mainSum := by unfold Func.isWrapper; first | (rw [if_pos (by decide +kernel)]; kernel_rfl) | (rw [if_neg (by decide +kernel)]; exact ⟨rfl, rfl⟩)
theorem over : Rows.verifyOneRow.holds Try.pinned (OpenSpec.ofChange Rows.verifyOneSpec) :=
  OpenClaim.holds_of_wide 9 Try.f9 rfl rfl rfl rfl rfl rfl rfl ⟨rfl, rfl, rfl, rfl, rfl⟩ rfl rfl rfl rfl rfl named Try.func9 closed inst wrapper
    (fun os started H enc _ => lifted os started H enc)
theorem proved : Rows.VerifyOneSaid := over
#print axioms proved
end Go.Proofs.Ytmjpibeiglicdaa.verifyOne
namespace Go.Proofs.Ytmjpibeiglicdaa
/-- The row, under a short name, for the claim. -/
theorem verifyOne_holds : Rows.VerifyOneSaid := verifyOne.proved
end Go.Proofs.Ytmjpibeiglicdaa
