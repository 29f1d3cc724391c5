/- The facts of the row of VerifyLong that the kernel counts out. -/
import Derived.Test.YtmjpibeiglicdaaClosedVerifyLongA
namespace Go.Proofs.Ytmjpibeiglicdaa
open Go.ChangeShapes Go.WideShapes
namespace Closed
set_option maxHeartbeats 400000000 in
set_option maxRecDepth 100000 in
theorem verifyLong : joinedFacts Try.pinned.checked.prog 10 Try.f10 Rows.verifyLongSpec Rows.verifyLongRow = true := by
  unfold joinedFacts
  simp only [Bool.and_eq_true]
  and_intros
  all_goals first | with_reducible exact verifyLong_inPlace | with_reducible exact verifyLong_unfollowed | with_reducible exact verifyLong_recurses | with_reducible exact verifyLong_named | (as_aux_lemma => kernel_rfl)
end Closed
end Go.Proofs.Ytmjpibeiglicdaa
