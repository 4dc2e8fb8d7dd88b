/- Walk of FormatUint in base 10. -/
import Derived.Test.YtflajoflpkboiaaShelf
import Derived.Test.YtflajoflpkboiaaDec
import Derived.Test.YtflajoflpkboiaaIntF
import Derived.Lib.ItoaMem
import Derived.Lib.AppendIntMem
import Derived.Lib.ItoaLen
namespace Go.Proofs.Ytflajoflpkboiaa
open Go.RowKit Go.Sort
set_option linter.unusedVariables false

/-- the table of powers of ten reads as it was laid -/
def Tab (w : World) : Prop := Lib.TabIs Try.prog w "internal/strconv.uint64pow10" .u64 Lib.pow10Tab
theorem Tab.call {w w' : World} (h : Tab w) (hb : Below w.heap.size w w') : Tab w' := Lib.tabBelow_of_tabIs h w' hb

end Go.Proofs.Ytflajoflpkboiaa
