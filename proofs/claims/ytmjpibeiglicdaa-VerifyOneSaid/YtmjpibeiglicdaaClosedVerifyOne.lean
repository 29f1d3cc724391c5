/- The facts of the row of VerifyOne that the kernel counts out. -/
import Derived.Test.YtmjpibeiglicdaaClosedVerifyOneA
namespace Go.Proofs.Ytmjpibeiglicdaa
open Go.ChangeShapes Go.WideShapes
namespace Closed
set_option maxHeartbeats 400000000 in
set_option maxRecDepth 100000 in
theorem verifyOne : joinedFacts Try.pinned.checked.prog 9 Try.f9 Rows.verifyOneSpec Rows.verifyOneRow = true := by
  unfold joinedFacts
  simp only [Bool.and_eq_true]
  and_intros
  all_goals first | with_reducible exact verifyOne_inPlace | with_reducible exact verifyOne_unfollowed | with_reducible exact verifyOne_recurses | with_reducible exact verifyOne_named | (as_aux_lemma => kernel_rfl)
end Closed
end Go.Proofs.Ytmjpibeiglicdaa
