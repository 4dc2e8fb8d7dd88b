/- Walk of integer.Format. -/
import Derived.Test.YtflajoflpkboiaaGreatFmtUint
import Derived.Test.YtflajoflpkboiaaGreatFmtPlain
import Derived.Test.YtflajoflpkboiaaGreatIntH
import Derived.Deep.LoopGhost
namespace Go.Proofs.YtflajoflpkboiaaGreat
open Go.RowKit
set_option linter.unusedVariables false

end Go.Proofs.YtflajoflpkboiaaGreat
