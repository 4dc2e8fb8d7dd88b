/- Opening an api.Int that came in; the table that is laid. -/
import Derived.Test.YtflajoflpkboiaaGreatOpen
import Derived.Test.YtflajoflpkboiaaGreatLawKit
import Derived.Lib.SmallJoins
import Derived.SizedLaws
import Derived.Lib.LaidTab
import Derived.Carry
namespace Go.Proofs.YtflajoflpkboiaaGreat
open Go.ChangeShapes Go.WideShapes Go.ChangeAt Go.RowKit Go.Joins
set_option linter.unusedVariables false

theorem weight_at {H : Type} {P : Program} {ts : List TypeId} {ds : List (DataW H)} (h : (DataW.weightsEach P ts ds).all (· ≤ reachBytes) = true) {j : Nat} {t : TypeId} {d : DataW H} (ht : ts[j]? = some t) (hd : ds[j]? = some d) : ∀ x ∈ DataW.weights P t d, x ≤ reachBytes := fun x hx => by
 have := List.all_eq_true.1 h x (DataW.weights_mem_each ht hd x hx)
 simpa using this
end Go.Proofs.YtflajoflpkboiaaGreat
