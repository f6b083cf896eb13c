/- What is known of the values that the laws of this group take: the numbers' ranges, the lists' lengths, their weights; by program. -/
import Derived.Test.YtlohkhadbkahdaaQSymsx0
import Derived.Test.YtlohkhadbkahdaaOpens
namespace Go.Proofs.Ytlohkhadbkahdaa.QSyms
open Go.RowKit Go.Proofs.YtlohkhadbkahdaaW.PrintWords Go.Proofs.Ytlohkhadbkahdaa

end Go.Proofs.Ytlohkhadbkahdaa.QSyms
