/- Walks of Light and awake. -/
import Derived.Test.YtflajoflpkboiaaGreatSame
import Derived.Test.YtflajoflpkboiaaGreatFormat
import Derived.Test.YtflajoflpkboiaaGreatDivMod
namespace Go.Proofs.YtflajoflpkboiaaGreat
open Go.RowKit
set_option linter.unusedVariables false

theorem CInt.len_le {w : World} {neg : Bool} {A : Option Addr} {n c : Nat} {z : Int} (h : CInt w neg A n c z) {k : Nat} (hk : z.natAbs < 4294967296 ^ k) : n ≤ k := by
 rw [← h.1.len]; exact digits_len_le hk
end Go.Proofs.YtflajoflpkboiaaGreat
