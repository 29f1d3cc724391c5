import Derived.Test.YtmjpibeiglicdaaUInv
import Derived.Test.YtmjpibeiglicdaaUFootNe
namespace Go.Proofs.YtmjpibeiglicdaaU.PrintWords
open Go.RowKit
end Go.Proofs.YtmjpibeiglicdaaU.PrintWords
namespace Go.Proofs.YtmjpibeiglicdaaU.PrintLast
section
variable {ops : Array Oper} {a : Act} {o og : Oper} {g : Nat} {t : Tmp} {u : Bool}
end
end Go.Proofs.YtmjpibeiglicdaaU.PrintLast
