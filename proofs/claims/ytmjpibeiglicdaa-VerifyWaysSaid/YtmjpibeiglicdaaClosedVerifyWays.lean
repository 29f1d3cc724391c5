/- The facts of the row of VerifyWays that the kernel counts out. -/
import Derived.Test.YtmjpibeiglicdaaClosedVerifyWaysA
namespace Go.Proofs.Ytmjpibeiglicdaa
open Go.ChangeShapes Go.WideShapes
namespace Closed
set_option maxHeartbeats 400000000 in
set_option maxRecDepth 100000 in
theorem verifyWays : joinedFacts Try.pinned.checked.prog 7 Try.f7 Rows.verifyWaysSpec Rows.verifyWaysRow = true := by
  unfold joinedFacts
  simp only [Bool.and_eq_true]
  and_intros
  all_goals first | with_reducible exact verifyWays_inPlace | with_reducible exact verifyWays_unfollowed | with_reducible exact verifyWays_recurses | with_reducible exact verifyWays_named | (as_aux_lemma => kernel_rfl)
end Closed
end Go.Proofs.Ytmjpibeiglicdaa
