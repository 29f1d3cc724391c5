/- Facts of the row of VerifyMore that the kernel counts out, part one. -/
import Derived.Test.YtmjpibeiglicdaaRows
import Derived.JoinedOf
namespace Go.Proofs.Ytmjpibeiglicdaa
open Go.ChangeShapes Go.WideShapes
namespace Closed
theorem verifyMore_inPlace : (Rows.verifyMoreRow.inPlace == Try.pinned.checked.prog.inPlace 8) = true := by kernel_rfl
theorem verifyMore_unfollowed : (Rows.verifyMoreRow.unfollowed == Try.pinned.checked.prog.unfollowed 8) = true := by kernel_rfl
theorem verifyMore_recurses : (Rows.verifyMoreRow.recurses == Try.pinned.checked.prog.recurses 8) = true := by kernel_rfl
theorem verifyMore_named : (Rows.verifyMoreRow.named == Try.pinned.checked.prog.varsNamed 8) = true := by kernel_rfl
end Closed
end Go.Proofs.Ytmjpibeiglicdaa
