/- Facts of the row of VerifyLong that the kernel counts out, part one. -/
import Derived.Test.YtmjpibeiglicdaaRows
import Derived.JoinedOf
namespace Go.Proofs.Ytmjpibeiglicdaa
open Go.ChangeShapes Go.WideShapes
namespace Closed
theorem verifyLong_inPlace : (Rows.verifyLongRow.inPlace == Try.pinned.checked.prog.inPlace 10) = true := by kernel_rfl
theorem verifyLong_unfollowed : (Rows.verifyLongRow.unfollowed == Try.pinned.checked.prog.unfollowed 10) = true := by kernel_rfl
theorem verifyLong_recurses : (Rows.verifyLongRow.recurses == Try.pinned.checked.prog.recurses 10) = true := by kernel_rfl
theorem verifyLong_named : (Rows.verifyLongRow.named == Try.pinned.checked.prog.varsNamed 10) = true := by kernel_rfl
end Closed
end Go.Proofs.Ytmjpibeiglicdaa
