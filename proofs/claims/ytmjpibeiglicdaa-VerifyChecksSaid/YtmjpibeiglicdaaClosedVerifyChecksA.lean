/- Facts of the row of VerifyChecks that the kernel counts out, part one. -/
import Derived.Test.YtmjpibeiglicdaaRows
import Derived.JoinedOf
namespace Go.Proofs.Ytmjpibeiglicdaa
open Go.ChangeShapes Go.WideShapes
namespace Closed
theorem verifyChecks_inPlace : (Rows.verifyChecksRow.inPlace == Try.pinned.checked.prog.inPlace 5) = true := by kernel_rfl
theorem verifyChecks_unfollowed : (Rows.verifyChecksRow.unfollowed == Try.pinned.checked.prog.unfollowed 5) = true := by kernel_rfl
theorem verifyChecks_recurses : (Rows.verifyChecksRow.recurses == Try.pinned.checked.prog.recurses 5) = true := by kernel_rfl
theorem verifyChecks_named : (Rows.verifyChecksRow.named == Try.pinned.checked.prog.varsNamed 5) = true := by kernel_rfl
end Closed
end Go.Proofs.Ytmjpibeiglicdaa
