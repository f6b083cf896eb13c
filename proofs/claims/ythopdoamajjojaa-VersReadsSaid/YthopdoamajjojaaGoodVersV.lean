import Derived.Test.YthopdoamajjojaaQVersVx0
import Derived.Test.YthopdoamajjojaaOpens
namespace Go.Proofs.Ythopdoamajjojaa.QVersV
open Go.RowKit Go.Proofs.YthopdoamajjojaaW.PrintWords Go.Proofs.Ythopdoamajjojaa
set_option linter.unusedVariables false
def good29 (x : S29) : Prop := (Lit.int .u32 x.f0).wf = true ∧ ((Lit.int .u32 x.f1).wf = true ∧ ((Lit.int .u64 x.f2).wf = true ∧ ((Lit.int .u64 x.f3).wf = true ∧ ((Lit.int .u64 x.f4).wf = true ∧ ((Lit.int .u64 x.f5).wf = true ∧ ((Lit.int .u64 x.f6).wf = true))))))
def wt29 (x : S29) : Nat := 1 + (1 + (1 + (1 + (1 + (1 + (1))))))
end Go.Proofs.Ythopdoamajjojaa.QVersV
