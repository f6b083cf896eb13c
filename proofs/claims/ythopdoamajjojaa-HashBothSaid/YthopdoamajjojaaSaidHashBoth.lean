/- The pure statement of the law HashBoth, by program. -/
import Derived.Test.YthopdoamajjojaaQHashBx8
import Derived.Test.YthopdoamajjojaaGoodHashB
namespace Go.Proofs.Ythopdoamajjojaa.QHashB
open Go.RowKit Go.Proofs.YthopdoamajjojaaW.PrintWords Go.Proofs.Ythopdoamajjojaa
def shacklelaw07_HashBoth.PureU : Prop := ∀ (l0 : List ByteArray) (a1 : Int) (a2 : Int) (a3 : ByteArray), (l0.length ≤ maxLen ∧ (∀ z ∈ l0, z.size ≤ maxLen)) → ((Lit.int .i64 a1).wf = true) → ((Lit.int .i64 a2).wf = true) → (a3.size ≤ maxLen) → ∃ k, shacklelaw07_HashBoth.f k l0 a1 a2 a3 = some true
end Go.Proofs.Ythopdoamajjojaa.QHashB
