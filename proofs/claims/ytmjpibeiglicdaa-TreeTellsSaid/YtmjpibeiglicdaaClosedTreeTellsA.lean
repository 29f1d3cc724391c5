/- Facts of the row of TreeTells that the kernel counts out, part one. -/
import Derived.Test.YtmjpibeiglicdaaRows
import Derived.JoinedOf
namespace Go.Proofs.Ytmjpibeiglicdaa
open Go.ChangeShapes Go.WideShapes
namespace Closed
theorem treeTells_inPlace : (Rows.treeTellsRow.inPlace == Try.pinned.checked.prog.inPlace 3) = true := by kernel_rfl
theorem treeTells_unfollowed : (Rows.treeTellsRow.unfollowed == Try.pinned.checked.prog.unfollowed 3) = true := by kernel_rfl
theorem treeTells_recurses : (Rows.treeTellsRow.recurses == Try.pinned.checked.prog.recurses 3) = true := by kernel_rfl
theorem treeTells_named : (Rows.treeTellsRow.named == Try.pinned.checked.prog.varsNamed 3) = true := by kernel_rfl
end Closed
end Go.Proofs.Ytmjpibeiglicdaa
