/- Facts of the row of EmitNear that the kernel counts out, part one. -/
import Derived.Test.YtmjpibeiglicdaaRows
import Derived.JoinedOf
namespace Go.Proofs.Ytmjpibeiglicdaa
open Go.ChangeShapes Go.WideShapes
namespace Closed
theorem emitNear_inPlace : (Rows.emitNearRow.inPlace == Try.pinned.checked.prog.inPlace 14) = true := by kernel_rfl
theorem emitNear_unfollowed : (Rows.emitNearRow.unfollowed == Try.pinned.checked.prog.unfollowed 14) = true := by kernel_rfl
theorem emitNear_recurses : (Rows.emitNearRow.recurses == Try.pinned.checked.prog.recurses 14) = true := by kernel_rfl
theorem emitNear_named : (Rows.emitNearRow.named == Try.pinned.checked.prog.varsNamed 14) = true := by kernel_rfl
end Closed
end Go.Proofs.Ytmjpibeiglicdaa
