import Derived.Test.YthopdoamajjojaaWMore
namespace Go.Proofs.YthopdoamajjojaaW.PrintWords
open Go.RowKit
namespace Kd
section
variable {P : Program} {ops : Array Oper} {rest : List Oper} {o : Oper} {a : Act} {Q : Exit → Act → World → Prop} {α : Type} {Kc : Act → World → Prop}
end
end Kd
end Go.Proofs.YthopdoamajjojaaW.PrintWords
