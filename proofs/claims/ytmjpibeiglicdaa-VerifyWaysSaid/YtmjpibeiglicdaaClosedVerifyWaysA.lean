/- Facts of the row of VerifyWays that the kernel counts out, part one. -/
import Derived.Test.YtmjpibeiglicdaaRows
import Derived.JoinedOf
namespace Go.Proofs.Ytmjpibeiglicdaa
open Go.ChangeShapes Go.WideShapes
namespace Closed
theorem verifyWays_inPlace : (Rows.verifyWaysRow.inPlace == Try.pinned.checked.prog.inPlace 7) = true := by kernel_rfl
theorem verifyWays_unfollowed : (Rows.verifyWaysRow.unfollowed == Try.pinned.checked.prog.unfollowed 7) = true := by kernel_rfl
theorem verifyWays_recurses : (Rows.verifyWaysRow.recurses == Try.pinned.checked.prog.recurses 7) = true := by kernel_rfl
theorem verifyWays_named : (Rows.verifyWaysRow.named == Try.pinned.checked.prog.varsNamed 7) = true := by kernel_rfl
end Closed
end Go.Proofs.Ytmjpibeiglicdaa
