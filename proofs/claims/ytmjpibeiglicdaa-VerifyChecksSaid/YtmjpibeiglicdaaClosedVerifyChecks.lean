/- The facts of the row of VerifyChecks that the kernel counts out. -/
import Derived.Test.YtmjpibeiglicdaaClosedVerifyChecksA
namespace Go.Proofs.Ytmjpibeiglicdaa
open Go.ChangeShapes Go.WideShapes
namespace Closed
set_option maxHeartbeats 400000000 in
set_option maxRecDepth 100000 in
theorem verifyChecks : joinedFacts Try.pinned.checked.prog 5 Try.f5 Rows.verifyChecksSpec Rows.verifyChecksRow = true := by
  unfold joinedFacts
  simp only [Bool.and_eq_true]
  and_intros
  all_goals first | with_reducible exact verifyChecks_inPlace | with_reducible exact verifyChecks_unfollowed | with_reducible exact verifyChecks_recurses | with_reducible exact verifyChecks_named | (as_aux_lemma => kernel_rfl)
end Closed
end Go.Proofs.Ytmjpibeiglicdaa
