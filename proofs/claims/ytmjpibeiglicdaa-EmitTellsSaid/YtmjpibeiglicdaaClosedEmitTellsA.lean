/- Facts of the row of EmitTells that the kernel counts out, part one. -/
import Derived.Test.YtmjpibeiglicdaaRows
import Derived.JoinedOf
namespace Go.Proofs.Ytmjpibeiglicdaa
open Go.ChangeShapes Go.WideShapes
namespace Closed
theorem emitTells_inPlace : (Rows.emitTellsRow.inPlace == Try.pinned.checked.prog.inPlace 12) = true := by kernel_rfl
theorem emitTells_unfollowed : (Rows.emitTellsRow.unfollowed == Try.pinned.checked.prog.unfollowed 12) = true := by kernel_rfl
theorem emitTells_recurses : (Rows.emitTellsRow.recurses == Try.pinned.checked.prog.recurses 12) = true := by kernel_rfl
theorem emitTells_named : (Rows.emitTellsRow.named == Try.pinned.checked.prog.varsNamed 12) = true := by kernel_rfl
end Closed
end Go.Proofs.Ytmjpibeiglicdaa
