/- Lemmas for the laws of this seat (part Open): each is proved for all values of its variables, under the premises that it states. -/
import Derived.Test.YtflajoflpkboiaaGreatBase
import Derived.ProofKit
import Derived.OpenShut
import Derived.ShutString
import Derived.ChangeOld
namespace Go.Proofs.YtflajoflpkboiaaGreat
open Go.ChangeShapes Go.WideShapes Go.ChangeAt Go.RowKit

/-- What a walk is told of a slice of unsigned integers that came in. -/
def ArgRow (k : IntKind) (w : World) (A : Option Addr) (len cap : Nat) (xs : List Nat) : Prop :=
 Rd k w w.heap.size A len xs ∧ len ≤ cap ∧ cap ≤ maxLen ∧ ∀ x ∈ xs, (Lit.int k (x : Int)).wf = true

theorem ArgRow.word {w : World} {A : Option Addr} {len cap : Nat} {xs : List Nat} (h : ArgRow .u32 w A len cap xs) : ∀ x ∈ xs, x < 4294967296 := fun x hx => by
 have h1 := h.2.2.2 x hx
 simp only [Lit.wf, Bool.and_eq_true, decide_eq_true_eq] at h1
 have : IntKind.u32.max = 4294967295 := by decide
 omega
end Go.Proofs.YtflajoflpkboiaaGreat
