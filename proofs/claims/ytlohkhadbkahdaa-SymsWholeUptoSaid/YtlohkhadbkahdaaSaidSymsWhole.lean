/- The pure statement of the law SymsWhole, by program. -/
import Derived.Test.YtlohkhadbkahdaaQSymsx4
import Derived.Test.YtlohkhadbkahdaaGoodSyms
namespace Go.Proofs.Ytlohkhadbkahdaa.QSyms
open Go.RowKit Go.Proofs.YtlohkhadbkahdaaW.PrintWords Go.Proofs.Ytlohkhadbkahdaa
def shacklelaw06_SymsWhole.PureU : Prop := ∀ (l0 : List ByteArray) (a1 : Int), (l0.length ≤ maxLen ∧ (∀ z ∈ l0, z.size ≤ maxLen)) → ((Lit.int .u64 a1).wf = true) → (Opn.wts (fun z : ByteArray => (z.size + 1)) l0 + 1) + 1 ≤ 1048576 → ∃ k, shacklelaw06_SymsWhole.f k l0 a1 = some true
end Go.Proofs.Ytlohkhadbkahdaa.QSyms
