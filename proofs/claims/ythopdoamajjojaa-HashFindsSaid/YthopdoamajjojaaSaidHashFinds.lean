/- The pure statement of the law HashFinds, by program. -/
import Derived.Test.YthopdoamajjojaaQHashFx6
import Derived.Test.YthopdoamajjojaaGoodHashF
namespace Go.Proofs.Ythopdoamajjojaa.QHashF
open Go.RowKit Go.Proofs.YthopdoamajjojaaW.PrintWords Go.Proofs.Ythopdoamajjojaa
def shacklelaw07_HashFinds.PureU : Prop := ∀ (l0 : List ByteArray) (a1 : Int) (a2 : ByteArray), (l0.length ≤ maxLen ∧ (∀ z ∈ l0, z.size ≤ maxLen)) → ((Lit.int .i64 a1).wf = true) → (a2.size ≤ maxLen) → ∃ k, shacklelaw07_HashFinds.f k l0 a1 a2 = some true
end Go.Proofs.Ythopdoamajjojaa.QHashF
