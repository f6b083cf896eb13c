import Derived.Test.YthopdoamajjojaaWLast
import Derived.Test.YthopdoamajjojaaWWords
namespace Go.Proofs.YthopdoamajjojaaW.PrintLast
open Go.Proofs.YthopdoamajjojaaW.PrintWords (Aside0)
section
variable {md : Region.Mode} {ops : Array Oper} {T : Bool × List (List Nat × List Nat)} {l l' li lj lk : Array Bool} {ds : List Nat} {i j k : Nat}
end
end Go.Proofs.YthopdoamajjojaaW.PrintLast
