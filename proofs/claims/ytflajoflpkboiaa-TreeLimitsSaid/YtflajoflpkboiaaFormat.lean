/- Walk of integer.Format. -/
import Derived.Test.YtflajoflpkboiaaFmtUint
import Derived.Test.YtflajoflpkboiaaFmtPlain
import Derived.Test.YtflajoflpkboiaaIntH
import Derived.Deep.LoopGhost
namespace Go.Proofs.Ytflajoflpkboiaa
open Go.RowKit
set_option linter.unusedVariables false

end Go.Proofs.Ytflajoflpkboiaa
