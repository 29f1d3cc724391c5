/- The facts of the row of EmitTells that the kernel counts out. -/
import Derived.Test.YtmjpibeiglicdaaClosedEmitTellsA
namespace Go.Proofs.Ytmjpibeiglicdaa
open Go.ChangeShapes Go.WideShapes
namespace Closed
set_option maxHeartbeats 400000000 in
set_option maxRecDepth 100000 in
theorem emitTells : joinedFacts Try.pinned.checked.prog 12 Try.f12 Rows.emitTellsSpec Rows.emitTellsRow = true := by
  unfold joinedFacts
  simp only [Bool.and_eq_true]
  and_intros
  all_goals first | with_reducible exact emitTells_inPlace | with_reducible exact emitTells_unfollowed | with_reducible exact emitTells_recurses | with_reducible exact emitTells_named | (as_aux_lemma => kernel_rfl)
end Closed
end Go.Proofs.Ytmjpibeiglicdaa
