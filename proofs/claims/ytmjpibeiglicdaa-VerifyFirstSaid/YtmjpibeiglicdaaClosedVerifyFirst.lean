/- The facts of the row of VerifyFirst that the kernel counts out. -/
import Derived.Test.YtmjpibeiglicdaaClosedVerifyFirstA
namespace Go.Proofs.Ytmjpibeiglicdaa
open Go.ChangeShapes Go.WideShapes
namespace Closed
set_option maxHeartbeats 400000000 in
set_option maxRecDepth 100000 in
theorem verifyFirst : joinedFacts Try.pinned.checked.prog 11 Try.f11 Rows.verifyFirstSpec Rows.verifyFirstRow = true := by
  unfold joinedFacts
  simp only [Bool.and_eq_true]
  and_intros
  all_goals first | with_reducible exact verifyFirst_inPlace | with_reducible exact verifyFirst_unfollowed | with_reducible exact verifyFirst_recurses | with_reducible exact verifyFirst_named | (as_aux_lemma => kernel_rfl)
end Closed
end Go.Proofs.Ytmjpibeiglicdaa
