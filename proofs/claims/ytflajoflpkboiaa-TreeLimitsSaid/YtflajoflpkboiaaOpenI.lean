/- Opening an api.Int that came in; the table that is laid. -/
import Derived.Test.YtflajoflpkboiaaOpen
import Derived.Test.YtflajoflpkboiaaLawKit
import Derived.Lib.SmallJoins
import Derived.SizedLaws
import Derived.Lib.LaidTab
import Derived.Carry
namespace Go.Proofs.Ytflajoflpkboiaa
open Go.ChangeShapes Go.WideShapes Go.ChangeAt Go.RowKit Go.Joins
set_option linter.unusedVariables false

end Go.Proofs.Ytflajoflpkboiaa
