/- sieve.Make, and the law's own 'awake': what they return. -/
import Derived.Test.YtcjmngonpijeiaaSieve4
import Derived.Test.YtcjmngonpijeiaaHash
namespace Go.Proofs.Ytcjmngonpijeiaa
set_option maxRecDepth 100000
open Go.RowKit Pl
set_option linter.unusedVariables false

end Go.Proofs.Ytcjmngonpijeiaa
