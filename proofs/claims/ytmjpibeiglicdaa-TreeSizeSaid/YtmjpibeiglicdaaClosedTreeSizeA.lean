/- Facts of the row of TreeSize that the kernel counts out, part one. -/
import Derived.Test.YtmjpibeiglicdaaRows
import Derived.JoinedOf
namespace Go.Proofs.Ytmjpibeiglicdaa
open Go.ChangeShapes Go.WideShapes
namespace Closed
theorem treeSize_inPlace : (Rows.treeSizeRow.inPlace == Try.pinned.checked.prog.inPlace 4) = true := by kernel_rfl
theorem treeSize_unfollowed : (Rows.treeSizeRow.unfollowed == Try.pinned.checked.prog.unfollowed 4) = true := by kernel_rfl
theorem treeSize_recurses : (Rows.treeSizeRow.recurses == Try.pinned.checked.prog.recurses 4) = true := by kernel_rfl
theorem treeSize_named : (Rows.treeSizeRow.named == Try.pinned.checked.prog.varsNamed 4) = true := by kernel_rfl
end Closed
end Go.Proofs.Ytmjpibeiglicdaa
