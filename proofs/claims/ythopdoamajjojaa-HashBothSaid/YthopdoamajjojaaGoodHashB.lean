/- What is known of the values that the laws of this group take: the numbers' ranges, the lists' lengths, their weights; by program. -/
import Derived.Test.YthopdoamajjojaaQHashBx0
import Derived.Test.YthopdoamajjojaaOpens
namespace Go.Proofs.Ythopdoamajjojaa.QHashB
open Go.RowKit Go.Proofs.YthopdoamajjojaaW.PrintWords Go.Proofs.Ythopdoamajjojaa

end Go.Proofs.Ythopdoamajjojaa.QHashB
