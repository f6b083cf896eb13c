/- What is known of the values that the laws of this group take: the numbers' ranges, the lists' lengths, their weights; by program. -/
import Derived.Test.YtlohkhadbkahdaaQGraphx0
import Derived.Test.YtlohkhadbkahdaaOpens
namespace Go.Proofs.Ytlohkhadbkahdaa.QGraph
open Go.RowKit Go.Proofs.YtlohkhadbkahdaaW.PrintWords Go.Proofs.Ytlohkhadbkahdaa
set_option linter.unusedVariables false

end Go.Proofs.Ytlohkhadbkahdaa.QGraph
