import Derived.Test.YtmjpibeiglicdaaVInv
import Derived.Test.YtmjpibeiglicdaaVFootNe
namespace Go.Proofs.YtmjpibeiglicdaaV.PrintWords
open Go.RowKit
end Go.Proofs.YtmjpibeiglicdaaV.PrintWords
namespace Go.Proofs.YtmjpibeiglicdaaV.PrintLast
section
variable {ops : Array Oper} {a : Act} {o og : Oper} {g : Nat} {t : Tmp} {u : Bool}
end
end Go.Proofs.YtmjpibeiglicdaaV.PrintLast
