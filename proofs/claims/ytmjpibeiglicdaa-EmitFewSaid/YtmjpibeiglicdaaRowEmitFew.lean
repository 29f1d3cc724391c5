/- The row of the law EmitFew: the law's call returns true, whatever the input, and leaves its arguments as they read. -/
import Derived.Test.YtmjpibeiglicdaaRows
import Derived.Test.YtmjpibeiglicdaaE9
import Derived.Test.YtmjpibeiglicdaaEArgs
import Derived.Test.YtmjpibeiglicdaaPureEmitFew
import Derived.Test.YtmjpibeiglicdaaClosedEmitFew
import Derived.WalkKit
import Derived.ProofKit
import Derived.OpenShut
import Derived.ShutString
import Derived.ChangeOld
import Derived.Below
import Derived.SizedLaws
import Derived.Carry
import Derived.JoinedOf
namespace Go.Proofs.Ytmjpibeiglicdaa.emitFew
open Go.ChangeShapes Go.WideShapes Go.ChangeAt Go.RowKit Go.Proofs.Ytmjpibeiglicdaa.E Go.Proofs.YtmjpibeiglicdaaU.PrintWords
set_option linter.unusedVariables false
theorem own : ownKnob Try.prog.godebug = none := by kernel_rfl
theorem laidOut : laidOutB Try.prog = true := by kernel_rfl
set_option maxRecDepth 100000 in
theorem lifted (os : Os) (started : os.Started) (H : Type) (enc : TypeId × Value → H) :
    ReturnsInHanded {} Try.checked os 13 .any (Rows.emitFewSpec.pre6 enc Try.prog Try.f13 Rows.emitFewRow.domain false) (Rows.emitFewSpec.post enc Try.prog Try.f13 false true false false) := by
  refine returnsInHanded_of_change_sized (C := Try.checked) own started (by kernel_rfl) Try.func13
    (ChangeSpec.witness6 (enc := enc) (C := Try.checked) false ⟨#[], #[.slice none 0 0], []⟩ 8 (by kernel_rfl) (by kernel_rfl) (by kernel_rfl) (by kernel_rfl)) ?_
  intro W base args ds gs before hval0 hW hcnd hsz0 _
  have hval : ∀ (j : Nat) t v, Try.f13.params[j]? = some t → args[j]? = some v → Value.okWide Try.prog W .any base t v := hval0
  have hW' := hW
  obtain ⟨p, q, hA0, hV, rfl, hfz, hnd⟩ := hW
  have hA : DataW.TrodAll enc Try.prog W 0 (fun _ => true) true Try.f13.params.toList args.toList ds p := hA0
  rw [Try.params13] at hA hval
  obtain ⟨v0, vs0, d0, ds0, p0, q0, hargs, rfl, rfl, h0, r0⟩ := trodAll_cons hA
  obtain ⟨rfl, rfl, rfl⟩ := trodAll_nil r0
  obtain rfl : args = #[v0] := by cases args; simp_all
  obtain ⟨rfl, rfl⟩ := trodVars_none hV
  have k0 := h0
  have lt0 : ∀ x ∈ p0, x.block < W.heap.size := by obtain ⟨m, hm⟩ := k0; exact DataW.trod_lt m _ _ _ hm
  obtain ⟨A0, c0, l0, rfl, hc0, hm0, hC0, hw0⟩ := open24 (hval 0 24 v0 rfl rfl) h0
  clear hA0 hval0 hsz0
  obtain ⟨k, hk⟩ := Pure.EmitFew l0 hw0
  refine (E.tamislaw23_EmitFew.calls k A0 c0 l0 true W hC0 hc0 hk).mono fun e W' ⟨he, bel⟩ => ?_
  subst he
  exact ⟨_, rfl, _, _, _, [], _, [], hW', trodAll_mk1 (shut_bool Try.underlying4 _), (trodAll_cons_mk (Below.trod laidOut (by kernel_rfl) (of_decide_eq_true (by kernel_rfl)) k0 bel lt0) trodAll_mk0), rfl, bel.frame _, fun h => by cases h⟩
theorem closed : joinedFacts Try.pinned.checked.prog 13 Try.f13 Rows.emitFewSpec Rows.emitFewRow = true := Closed.emitFew
theorem named : Try.pinned.checked.prog.funcNamed Rows.emitFewRow.func = some 13 := by kernel_rfl
theorem inst : Try.f13.isInstance Try.pinned.checked.prog Rows.emitFewRow.origin Rows.emitFewRow.targs := of_decide_eq_true (by kernel_rfl)
theorem wrapper : Try.f13.isWrapper Try.pinned.checked.prog Rows.emitFewRow.wrapper Rows.emitFewRow.mainSum := by unfold Func.isWrapper; first | (rw [if_pos (by decide +kernel)]; kernel_rfl) | (rw [if_neg (by decide +kernel)]; exact ⟨rfl, rfl⟩)
theorem over : Rows.emitFewRow.holds Try.pinned (OpenSpec.ofChange Rows.emitFewSpec) :=
  OpenClaim.holds_of_wide 13 Try.f13 rfl rfl rfl rfl rfl rfl rfl ⟨rfl, rfl, rfl, rfl, rfl⟩ rfl rfl rfl rfl rfl named Try.func13 closed inst wrapper
    (fun os started H enc _ => lifted os started H enc)
theorem proved : Rows.EmitFewSaid := over
#print axioms proved
end Go.Proofs.Ytmjpibeiglicdaa.emitFew
namespace Go.Proofs.Ytmjpibeiglicdaa
/-- The row, under a short name, for the claim. -/
theorem emitFew_holds : Rows.EmitFewSaid := emitFew.proved
end Go.Proofs.Ytmjpibeiglicdaa
