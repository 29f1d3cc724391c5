/- The facts of the row of VerifyWritten that the kernel counts out. -/
import Derived.Test.YtmjpibeiglicdaaClosedVerifyWrittenA
namespace Go.Proofs.Ytmjpibeiglicdaa
open Go.ChangeShapes Go.WideShapes
namespace Closed
set_option maxHeartbeats 400000000 in
set_option maxRecDepth 100000 in
theorem verifyWritten : joinedFacts Try.pinned.checked.prog 6 Try.f6 Rows.verifyWrittenSpec Rows.verifyWrittenRow = true := by
  unfold joinedFacts
  simp only [Bool.and_eq_true]
  and_intros
  all_goals first | with_reducible exact verifyWritten_inPlace | with_reducible exact verifyWritten_unfollowed | with_reducible exact verifyWritten_recurses | with_reducible exact verifyWritten_named | (as_aux_lemma => kernel_rfl)
end Closed
end Go.Proofs.Ytmjpibeiglicdaa
