/- Decimal notation, plain. -/
import Derived.Test.YtflajoflpkboiaaGreatBase
import Derived.Lib.ItoaNum
namespace Go.Proofs.YtflajoflpkboiaaGreat
end Go.Proofs.YtflajoflpkboiaaGreat
