/- Plain lemmas for Format. -/
import Derived.Test.YtflajoflpkboiaaGreatDec
import Derived.Test.YtflajoflpkboiaaGreatIntPlain
namespace Go.Proofs.YtflajoflpkboiaaGreat
end Go.Proofs.YtflajoflpkboiaaGreat
