/- The facts of the row of EmitNear that the kernel counts out. -/
import Derived.Test.YtmjpibeiglicdaaClosedEmitNearA
namespace Go.Proofs.Ytmjpibeiglicdaa
open Go.ChangeShapes Go.WideShapes
namespace Closed
set_option maxHeartbeats 400000000 in
set_option maxRecDepth 100000 in
theorem emitNear : joinedFacts Try.pinned.checked.prog 14 Try.f14 Rows.emitNearSpec Rows.emitNearRow = true := by
  unfold joinedFacts
  simp only [Bool.and_eq_true]
  and_intros
  all_goals first | with_reducible exact emitNear_inPlace | with_reducible exact emitNear_unfollowed | with_reducible exact emitNear_recurses | with_reducible exact emitNear_named | (as_aux_lemma => kernel_rfl)
end Closed
end Go.Proofs.Ytmjpibeiglicdaa
