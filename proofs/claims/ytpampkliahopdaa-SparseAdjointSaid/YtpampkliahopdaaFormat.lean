/- Walk of integer.Format. -/
import Derived.Test.YtpampkliahopdaaFmtUint
import Derived.Test.YtpampkliahopdaaFmtPlain
import Derived.Test.YtpampkliahopdaaIntH
import Derived.Deep.LoopGhost
namespace Go.Proofs.Ytpampkliahopdaa
open Go.RowKit
set_option linter.unusedVariables false

theorem Mut.grownO {k : IntKind} {e : TypeId} {w w' : World} {g : Nat} {xs : List Nat} {row : Option Nat} (h : Mut k e w g xs) (hg : w.grownBy w' row) (hne : row ≠ some g) : Mut k e w' g xs := h.keep (hg.block g h.lt (fun e => hne e.symm))
theorem Own.kept {k : IntKind} {e : TypeId} {w0 w w' : World} {v : Value} {xs : List Nat} {g : Nat} (h : Own k e w0 w v xs) (hg : w.grownBy w' (some g)) (hne : v.ownBlock ≠ some g) (hB : w0.heap.size ≤ g) : Own k e w0 w' v xs :=
  ⟨h.1.kept hg (.inr hne), h.2.grown hg h.2.size (fun k hk => by injection hk with hk; omega)⟩

/-- the state of the first loop of Format -/
def FmtS (w wr : World) (a mm : Nat) (mv pv : Value) : Prop :=
  ∃ (g k c : Nat) (ps : List Nat), mv = .slice (some ⟨g, 0, none⟩) k c ∧ k ≤ c ∧ c ≤ 9223372036854775807 ∧ Mut .u32 77 wr g (digits mm) ∧ (digits mm).length = k ∧ mm ≤ a ∧
    Own .u32 77 w wr pv ps ∧ pv.ownBlock ≠ some g ∧ w.heap.size ≤ g ∧ ps ++ parts9 mm = parts9 a
theorem Try.elemU8 : IsElem Try.prog .u8 5 1 := by unfold IsElem; kernel_rfl

end Go.Proofs.Ytpampkliahopdaa
