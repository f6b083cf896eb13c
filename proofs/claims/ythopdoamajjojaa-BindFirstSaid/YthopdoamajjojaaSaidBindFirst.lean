import Derived.Test.YthopdoamajjojaaQBindFx11
import Derived.Test.YthopdoamajjojaaGoodBindF
namespace Go.Proofs.Ythopdoamajjojaa.QBindF
open Go.RowKit Go.Proofs.YthopdoamajjojaaW.PrintWords Go.Proofs.Ythopdoamajjojaa
def shacklelaw17_BindFirst.PureU : Prop := ∀ (l0 : List (S127)) (l1 : List Int) (a2_0 : ByteArray) (a2_1 : ByteArray) (a2_2 : ByteArray), (l0.length ≤ maxLen ∧ (∀ z ∈ l0, good127 z)) → (l1.length ≤ maxLen ∧ (∀ z ∈ l1, (Lit.int .i64 z).wf = true)) → (a2_0.size ≤ maxLen) → (a2_1.size ≤ maxLen) → (a2_2.size ≤ maxLen) → ∃ k, shacklelaw17_BindFirst.f k l0 l1 a2_0 a2_1 a2_2 = some true
end Go.Proofs.Ythopdoamajjojaa.QBindF
