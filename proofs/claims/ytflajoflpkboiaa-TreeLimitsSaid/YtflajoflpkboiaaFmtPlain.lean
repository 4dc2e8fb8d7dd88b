/- Plain lemmas for Format. -/
import Derived.Test.YtflajoflpkboiaaDec
import Derived.Test.YtflajoflpkboiaaIntPlain
namespace Go.Proofs.Ytflajoflpkboiaa
end Go.Proofs.Ytflajoflpkboiaa
