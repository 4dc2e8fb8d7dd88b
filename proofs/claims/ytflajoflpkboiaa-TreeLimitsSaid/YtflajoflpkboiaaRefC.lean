/- Walk of mulDigits of the reference. -/
import Derived.Test.YtflajoflpkboiaaRefB
import Derived.IntWalk
namespace Go.Proofs.Ytflajoflpkboiaa
open Go.RowKit
set_option linter.unusedVariables false

end Go.Proofs.Ytflajoflpkboiaa
