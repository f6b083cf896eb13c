/- What is known of the values that the laws of this group take: the numbers' ranges, the lists' lengths, their weights; by program. -/
import Derived.Test.YtlohkhadbkahdaaQSymsx0
import Derived.Test.YtlohkhadbkahdaaOpens
namespace Go.Proofs.Ytlohkhadbkahdaa.QSyms
open Go.RowKit Go.Proofs.YtlohkhadbkahdaaW.PrintWords Go.Proofs.Ytlohkhadbkahdaa
set_option linter.unusedVariables false
def good95 (x : S95) : Prop := (Lit.int .u32 x.f0).wf = true ∧ ((Lit.int .u32 x.f1).wf = true ∧ ((Lit.int .u64 x.f2).wf = true ∧ ((Lit.int .u64 x.f3).wf = true ∧ ((Lit.int .u64 x.f4).wf = true ∧ ((Lit.int .u64 x.f5).wf = true ∧ ((Lit.int .u64 x.f6).wf = true))))))
def wt95 (x : S95) : Nat := 1 + (1 + (1 + (1 + (1 + (1 + (1))))))
end Go.Proofs.Ytlohkhadbkahdaa.QSyms
