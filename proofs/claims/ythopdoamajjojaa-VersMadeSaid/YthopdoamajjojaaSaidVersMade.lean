import Derived.Test.YthopdoamajjojaaQVersMx2
import Derived.Test.YthopdoamajjojaaGoodVersM
namespace Go.Proofs.Ythopdoamajjojaa.QVersM
open Go.RowKit Go.Proofs.YthopdoamajjojaaW.PrintWords Go.Proofs.Ythopdoamajjojaa
def shacklelaw08_VersMade.PureU : Prop := ∀ (l0 : List ByteArray) (a1 : ByteArray) (l2 : List ByteArray) (l3 : List Int), (l0.length ≤ maxLen ∧ (∀ z ∈ l0, z.size ≤ maxLen)) → (a1.size ≤ maxLen) → (l2.length ≤ maxLen ∧ (∀ z ∈ l2, z.size ≤ maxLen)) → (l3.length ≤ maxLen ∧ (∀ z ∈ l3, (Lit.int .i64 z).wf = true)) → ∃ k, shacklelaw08_VersMade.f k l0 a1 l2 l3 = some true
end Go.Proofs.Ythopdoamajjojaa.QVersM
