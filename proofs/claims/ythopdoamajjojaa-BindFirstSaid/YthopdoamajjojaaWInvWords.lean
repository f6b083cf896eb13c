import Derived.Test.YthopdoamajjojaaWInv
import Derived.Test.YthopdoamajjojaaWFootNe
namespace Go.Proofs.YthopdoamajjojaaW.PrintWords
open Go.RowKit
end Go.Proofs.YthopdoamajjojaaW.PrintWords
namespace Go.Proofs.YthopdoamajjojaaW.PrintLast
section
variable {ops : Array Oper} {a : Act} {o og : Oper} {g : Nat} {t : Tmp} {u : Bool}
end
end Go.Proofs.YthopdoamajjojaaW.PrintLast
