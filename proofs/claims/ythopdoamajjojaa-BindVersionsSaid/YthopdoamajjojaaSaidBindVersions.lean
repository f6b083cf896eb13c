/- The pure statement of the law BindVersions, by program. -/
import Derived.Test.YthopdoamajjojaaQBindWx4
import Derived.Test.YthopdoamajjojaaGoodBindW
namespace Go.Proofs.Ythopdoamajjojaa.QBindW
open Go.RowKit Go.Proofs.YthopdoamajjojaaW.PrintWords Go.Proofs.Ythopdoamajjojaa
def shacklelaw17_BindVersions.PureU : Prop := ∀ (l0 : List (S127)) (l1 : List ByteArray), (l0.length ≤ maxLen ∧ (∀ z ∈ l0, good127 z)) → (l1.length ≤ maxLen ∧ (∀ z ∈ l1, z.size ≤ maxLen)) → ∃ k, shacklelaw17_BindVersions.f k l0 l1 = some true
end Go.Proofs.Ythopdoamajjojaa.QBindW
