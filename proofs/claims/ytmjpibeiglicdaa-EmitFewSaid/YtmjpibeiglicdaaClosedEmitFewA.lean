/- Facts of the row of EmitFew that the kernel counts out, part one. -/
import Derived.Test.YtmjpibeiglicdaaRows
import Derived.JoinedOf
namespace Go.Proofs.Ytmjpibeiglicdaa
open Go.ChangeShapes Go.WideShapes
namespace Closed
theorem emitFew_inPlace : (Rows.emitFewRow.inPlace == Try.pinned.checked.prog.inPlace 13) = true := by kernel_rfl
theorem emitFew_unfollowed : (Rows.emitFewRow.unfollowed == Try.pinned.checked.prog.unfollowed 13) = true := by kernel_rfl
theorem emitFew_recurses : (Rows.emitFewRow.recurses == Try.pinned.checked.prog.recurses 13) = true := by kernel_rfl
theorem emitFew_named : (Rows.emitFewRow.named == Try.pinned.checked.prog.varsNamed 13) = true := by kernel_rfl
end Closed
end Go.Proofs.Ytmjpibeiglicdaa
