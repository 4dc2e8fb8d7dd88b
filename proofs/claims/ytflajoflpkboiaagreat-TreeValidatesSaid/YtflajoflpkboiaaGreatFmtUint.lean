/- Walk of FormatUint in base 10. -/
import Derived.Test.YtflajoflpkboiaaGreatShelf
import Derived.Test.YtflajoflpkboiaaGreatDec
import Derived.Test.YtflajoflpkboiaaGreatIntF
import Derived.Lib.ItoaMem
import Derived.Lib.AppendIntMem
import Derived.Lib.ItoaLen
namespace Go.Proofs.YtflajoflpkboiaaGreat
open Go.RowKit Go.Sort
set_option linter.unusedVariables false

/-- the table of powers of ten reads as it was laid -/
def Tab (w : World) : Prop := Lib.TabIs Tryz.prog w "internal/strconv.uint64pow10" .u64 Lib.pow10Tab
theorem Tab.call {w w' : World} (h : Tab w) (hb : Below w.heap.size w w') : Tab w' := Lib.tabBelow_of_tabIs h w' hb

end Go.Proofs.YtflajoflpkboiaaGreat
