/- The facts of the row of VerifyMore that the kernel counts out. -/
import Derived.Test.YtmjpibeiglicdaaClosedVerifyMoreA
namespace Go.Proofs.Ytmjpibeiglicdaa
open Go.ChangeShapes Go.WideShapes
namespace Closed
set_option maxHeartbeats 400000000 in
set_option maxRecDepth 100000 in
theorem verifyMore : joinedFacts Try.pinned.checked.prog 8 Try.f8 Rows.verifyMoreSpec Rows.verifyMoreRow = true := by
  unfold joinedFacts
  simp only [Bool.and_eq_true]
  and_intros
  all_goals first | with_reducible exact verifyMore_inPlace | with_reducible exact verifyMore_unfollowed | with_reducible exact verifyMore_recurses | with_reducible exact verifyMore_named | (as_aux_lemma => kernel_rfl)
end Closed
end Go.Proofs.Ytmjpibeiglicdaa
