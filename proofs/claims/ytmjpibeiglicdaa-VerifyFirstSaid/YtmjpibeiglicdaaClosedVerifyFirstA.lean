/- Facts of the row of VerifyFirst that the kernel counts out, part one. -/
import Derived.Test.YtmjpibeiglicdaaRows
import Derived.JoinedOf
namespace Go.Proofs.Ytmjpibeiglicdaa
open Go.ChangeShapes Go.WideShapes
namespace Closed
theorem verifyFirst_inPlace : (Rows.verifyFirstRow.inPlace == Try.pinned.checked.prog.inPlace 11) = true := by kernel_rfl
theorem verifyFirst_unfollowed : (Rows.verifyFirstRow.unfollowed == Try.pinned.checked.prog.unfollowed 11) = true := by kernel_rfl
theorem verifyFirst_recurses : (Rows.verifyFirstRow.recurses == Try.pinned.checked.prog.recurses 11) = true := by kernel_rfl
theorem verifyFirst_named : (Rows.verifyFirstRow.named == Try.pinned.checked.prog.varsNamed 11) = true := by kernel_rfl
end Closed
end Go.Proofs.Ytmjpibeiglicdaa
