/- Decimal notation, plain. -/
import Derived.Test.YtflajoflpkboiaaBase
import Derived.Lib.ItoaNum
namespace Go.Proofs.Ytflajoflpkboiaa
end Go.Proofs.Ytflajoflpkboiaa
