/- The facts of the row of TreeSize that the kernel counts out. -/
import Derived.Test.YtmjpibeiglicdaaClosedTreeSizeA
namespace Go.Proofs.Ytmjpibeiglicdaa
open Go.ChangeShapes Go.WideShapes
namespace Closed
set_option maxHeartbeats 400000000 in
set_option maxRecDepth 100000 in
theorem treeSize : joinedFacts Try.pinned.checked.prog 4 Try.f4 Rows.treeSizeSpec Rows.treeSizeRow = true := by
  unfold joinedFacts
  simp only [Bool.and_eq_true]
  and_intros
  all_goals first | with_reducible exact treeSize_inPlace | with_reducible exact treeSize_unfollowed | with_reducible exact treeSize_recurses | with_reducible exact treeSize_named | (as_aux_lemma => kernel_rfl)
end Closed
end Go.Proofs.Ytmjpibeiglicdaa
