/- The row of the law EmitNear: the law's call returns true, whatever the input, and leaves its arguments as they read. -/
import Derived.Test.YtmjpibeiglicdaaRows
import Derived.Test.YtmjpibeiglicdaaE10
import Derived.Test.YtmjpibeiglicdaaEArgs
import Derived.Test.YtmjpibeiglicdaaPureEmitNear
import Derived.Test.YtmjpibeiglicdaaClosedEmitNear
import Derived.WalkKit
import Derived.ProofKit
import Derived.OpenShut
import Derived.ShutString
import Derived.ChangeOld
import Derived.Below
import Derived.SizedLaws
import Derived.Carry
import Derived.JoinedOf
namespace Go.Proofs.Ytmjpibeiglicdaa.emitNear
open Go.ChangeShapes Go.WideShapes Go.ChangeAt Go.RowKit Go.Proofs.Ytmjpibeiglicdaa.E Go.Proofs.YtmjpibeiglicdaaU.PrintWords
set_option linter.unusedVariables false
theorem own : ownKnob Try.prog.godebug = none := by kernel_rfl
theorem laidOut : laidOutB Try.prog = true := by kernel_rfl
set_option maxRecDepth 100000 in
theorem lifted (os : Os) (started : os.Started) (H : Type) (enc : TypeId × Value → H) :
    ReturnsInHanded {} Try.checked os 14 .any (Rows.emitNearSpec.pre6 enc Try.prog Try.f14 Rows.emitNearRow.domain false) (Rows.emitNearSpec.post enc Try.prog Try.f14 false true false false) := by
  refine returnsInHanded_of_change_sized (C := Try.checked) own started (by kernel_rfl) Try.func14
    (ChangeSpec.witness6 (enc := enc) (C := Try.checked) false ⟨#[], #[.slice none 0 0], []⟩ 8 (by kernel_rfl) (by kernel_rfl) (by kernel_rfl) (by kernel_rfl)) ?_
  intro W base args ds gs before hval0 hW hcnd hsz0 _
  have hval : ∀ (j : Nat) t v, Try.f14.params[j]? = some t → args[j]? = some v → Value.okWide Try.prog W .any base t v := hval0
  have hW' := hW
  obtain ⟨p, q, hA0, hV, rfl, hfz, hnd⟩ := hW
  have hA : DataW.TrodAll enc Try.prog W 0 (fun _ => true) true Try.f14.params.toList args.toList ds p := hA0
  rw [Try.params14] at hA hval
  obtain ⟨v0, vs0, d0, ds0, p0, q0, hargs, rfl, rfl, h0, r0⟩ := trodAll_cons hA
  obtain ⟨rfl, rfl, rfl⟩ := trodAll_nil r0
  obtain rfl : args = #[v0] := by cases args; simp_all
  obtain ⟨rfl, rfl⟩ := trodVars_none hV
  have k0 := h0
  have lt0 : ∀ x ∈ p0, x.block < W.heap.size := by obtain ⟨m, hm⟩ := k0; exact DataW.trod_lt m _ _ _ hm
  obtain ⟨A0, c0, l0, rfl, hc0, hm0, hC0, hw0⟩ := open24 (hval 0 24 v0 rfl rfl) h0
  clear hA0 hval0 hsz0
  obtain ⟨k, hk⟩ := Pure.EmitNear l0 hw0
  refine (E.tamislaw23_EmitNear.calls k A0 c0 l0 true W hC0 hc0 hk).mono fun e W' ⟨he, bel⟩ => ?_
  subst he
  exact ⟨_, rfl, _, _, _, [], _, [], hW', trodAll_mk1 (shut_bool Try.underlying4 _), (trodAll_cons_mk (Below.trod laidOut (by kernel_rfl) (of_decide_eq_true (by kernel_rfl)) k0 bel lt0) trodAll_mk0), rfl, bel.frame _, fun h => by cases h⟩
theorem closed : joinedFacts Try.pinned.checked.prog 14 Try.f14 Rows.emitNearSpec Rows.emitNearRow = true := Closed.emitNear
theorem named : Try.pinned.checked.prog.funcNamed Rows.emitNearRow.func = some 14 := by kernel_rfl
theorem inst : Try.f14.isInstance Try.pinned.checked.prog Rows.emitNearRow.origin Rows.emitNearRow.targs := of_decide_eq_true (by kernel_rfl)
theorem wrapper : Try.f14.isWrapper Try.pinned.checked.prog Rows.emitNearRow.wrapper Rows.emitNearRow.mainSum := by unfold Func.isWrapper; first | (rw [if_pos (by decide +kernel)]; kernel_rfl) | (rw [if_neg (by decide +kernel)]; exact ⟨rfl, rfl⟩)
theorem over : Rows.emitNearRow.holds Try.pinned (OpenSpec.ofChange Rows.emitNearSpec) :=
  OpenClaim.holds_of_wide 14 Try.f14 rfl rfl rfl rfl rfl rfl rfl ⟨rfl, rfl, rfl, rfl, rfl⟩ rfl rfl rfl rfl rfl named Try.func14 closed inst wrapper
    (fun os started H enc _ => lifted os started H enc)
theorem proved : Rows.EmitNearSaid := over
#print axioms proved
end Go.Proofs.Ytmjpibeiglicdaa.emitNear
namespace Go.Proofs.Ytmjpibeiglicdaa
/-- The row, under a short name, for the claim. -/
theorem emitNear_holds : Rows.EmitNearSaid := emitNear.proved
end Go.Proofs.Ytmjpibeiglicdaa
