import Derived.Test.YthopdoamajjojaaQVersMx0
import Derived.Test.YthopdoamajjojaaOpens
namespace Go.Proofs.Ythopdoamajjojaa.QVersM
open Go.RowKit Go.Proofs.YthopdoamajjojaaW.PrintWords Go.Proofs.Ythopdoamajjojaa
set_option linter.unusedVariables false
end Go.Proofs.Ythopdoamajjojaa.QVersM
