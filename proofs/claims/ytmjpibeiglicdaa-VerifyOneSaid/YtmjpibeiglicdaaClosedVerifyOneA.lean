/- Facts of the row of VerifyOne that the kernel counts out, part one. -/
import Derived.Test.YtmjpibeiglicdaaRows
import Derived.JoinedOf
namespace Go.Proofs.Ytmjpibeiglicdaa
open Go.ChangeShapes Go.WideShapes
namespace Closed
theorem verifyOne_inPlace : (Rows.verifyOneRow.inPlace == Try.pinned.checked.prog.inPlace 9) = true := by kernel_rfl
theorem verifyOne_unfollowed : (Rows.verifyOneRow.unfollowed == Try.pinned.checked.prog.unfollowed 9) = true := by kernel_rfl
theorem verifyOne_recurses : (Rows.verifyOneRow.recurses == Try.pinned.checked.prog.recurses 9) = true := by kernel_rfl
theorem verifyOne_named : (Rows.verifyOneRow.named == Try.pinned.checked.prog.varsNamed 9) = true := by kernel_rfl
end Closed
end Go.Proofs.Ytmjpibeiglicdaa
