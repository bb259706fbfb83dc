/- table.Count, table.wide, table.hashes. -/
import Derived.Test.YtcjmngonpijeiaaMkP
import Derived.Test.YtcjmngonpijeiaaFind
namespace Go.Proofs.Ytcjmngonpijeiaa
set_option maxRecDepth 100000
open Go.RowKit Pl
set_option linter.unusedVariables false

end Go.Proofs.Ytcjmngonpijeiaa
