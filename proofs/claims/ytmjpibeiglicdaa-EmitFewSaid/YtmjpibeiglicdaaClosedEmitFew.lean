/- The facts of the row of EmitFew that the kernel counts out. -/
import Derived.Test.YtmjpibeiglicdaaClosedEmitFewA
namespace Go.Proofs.Ytmjpibeiglicdaa
open Go.ChangeShapes Go.WideShapes
namespace Closed
set_option maxHeartbeats 400000000 in
set_option maxRecDepth 100000 in
theorem emitFew : joinedFacts Try.pinned.checked.prog 13 Try.f13 Rows.emitFewSpec Rows.emitFewRow = true := by
  unfold joinedFacts
  simp only [Bool.and_eq_true]
  and_intros
  all_goals first | with_reducible exact emitFew_inPlace | with_reducible exact emitFew_unfollowed | with_reducible exact emitFew_recurses | with_reducible exact emitFew_named | (as_aux_lemma => kernel_rfl)
end Closed
end Go.Proofs.Ytmjpibeiglicdaa
