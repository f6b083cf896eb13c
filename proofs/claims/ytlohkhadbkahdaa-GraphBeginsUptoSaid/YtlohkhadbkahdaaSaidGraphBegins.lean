/- The pure statement of the law GraphBegins, by program. -/
import Derived.Test.YtlohkhadbkahdaaQGraphx8
import Derived.Test.YtlohkhadbkahdaaGoodGraph
namespace Go.Proofs.Ytlohkhadbkahdaa.QGraph
open Go.RowKit Go.Proofs.YtlohkhadbkahdaaW.PrintWords Go.Proofs.Ytlohkhadbkahdaa
def shacklelaw16_GraphBegins.PureU : Prop := ∀ (l0 : List (List Int)) (l1 : List Int), (l0.length ≤ maxLen ∧ (∀ z ∈ l0, (z.length ≤ maxLen ∧ ∀ zz ∈ z, (Lit.int .i64 zz).wf = true))) → (l1.length ≤ maxLen ∧ (∀ z ∈ l1, (Lit.int .i64 z).wf = true)) → (Opn.wts (fun z : List Int => (Opn.wts (fun _ : Int => 1) z + 1)) l0 + 1) + (Opn.wts (fun _ : Int => 1) l1 + 1) ≤ 1048576 → ∃ k, shacklelaw16_GraphBegins.f k l0 l1 = some true
end Go.Proofs.Ytlohkhadbkahdaa.QGraph
