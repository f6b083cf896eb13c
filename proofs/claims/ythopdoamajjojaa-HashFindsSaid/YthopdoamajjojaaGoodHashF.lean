/- What is known of the values that the laws of this group take: the numbers' ranges, the lists' lengths, their weights; by program. -/
import Derived.Test.YthopdoamajjojaaQHashFx0
import Derived.Test.YthopdoamajjojaaOpens
namespace Go.Proofs.Ythopdoamajjojaa.QHashF
open Go.RowKit Go.Proofs.YthopdoamajjojaaW.PrintWords Go.Proofs.Ythopdoamajjojaa

end Go.Proofs.Ythopdoamajjojaa.QHashF
