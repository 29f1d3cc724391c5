/- The facts of the row of TreeTells that the kernel counts out. -/
import Derived.Test.YtmjpibeiglicdaaClosedTreeTellsA
namespace Go.Proofs.Ytmjpibeiglicdaa
open Go.ChangeShapes Go.WideShapes
namespace Closed
set_option maxHeartbeats 400000000 in
set_option maxRecDepth 100000 in
theorem treeTells : joinedFacts Try.pinned.checked.prog 3 Try.f3 Rows.treeTellsSpec Rows.treeTellsRow = true := by
  unfold joinedFacts
  simp only [Bool.and_eq_true]
  and_intros
  all_goals first | with_reducible exact treeTells_inPlace | with_reducible exact treeTells_unfollowed | with_reducible exact treeTells_recurses | with_reducible exact treeTells_named | (as_aux_lemma => kernel_rfl)
end Closed
end Go.Proofs.Ytmjpibeiglicdaa
