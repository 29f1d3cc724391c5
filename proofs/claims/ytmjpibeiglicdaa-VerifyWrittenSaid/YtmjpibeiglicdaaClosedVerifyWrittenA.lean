/- Facts of the row of VerifyWritten that the kernel counts out, part one. -/
import Derived.Test.YtmjpibeiglicdaaRows
import Derived.JoinedOf
namespace Go.Proofs.Ytmjpibeiglicdaa
open Go.ChangeShapes Go.WideShapes
namespace Closed
theorem verifyWritten_inPlace : (Rows.verifyWrittenRow.inPlace == Try.pinned.checked.prog.inPlace 6) = true := by kernel_rfl
theorem verifyWritten_unfollowed : (Rows.verifyWrittenRow.unfollowed == Try.pinned.checked.prog.unfollowed 6) = true := by kernel_rfl
theorem verifyWritten_recurses : (Rows.verifyWrittenRow.recurses == Try.pinned.checked.prog.recurses 6) = true := by kernel_rfl
theorem verifyWritten_named : (Rows.verifyWrittenRow.named == Try.pinned.checked.prog.varsNamed 6) = true := by kernel_rfl
end Closed
end Go.Proofs.Ytmjpibeiglicdaa
