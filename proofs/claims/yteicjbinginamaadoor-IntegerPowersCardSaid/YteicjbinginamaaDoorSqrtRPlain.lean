/- The plain law of the reference's Sqrt: bit by bit. -/
import Derived.Test.YteicjbinginamaaDoorSqrtPlain
namespace Go.Proofs.YteicjbinginamaaDoor
open Go.RowKit
set_option linter.unusedVariables false

/-- r is the root of a up to i bits: the state before the bit i - 1 -/
def SqB (a r i : Nat) : Prop := r * r ≤ a ∧ a < (r + 2 ^ i) * (r + 2 ^ i)

theorem SqB.start (a : Nat) : SqB a 0 (blen a / 2 + 1) := by
  refine ⟨by omega, ?_⟩
  have h := start_gt a
  have h2 : 2 ^ ((blen a + 1) / 2) ≤ 2 ^ (blen a / 2 + 1) := Nat.pow_le_pow_right (by omega) (by omega)
  rw [Nat.zero_add]
  exact Nat.lt_of_lt_of_le h (Nat.mul_le_mul h2 h2)

theorem SqB.take {a r i : Nat} (h : SqB a r (i + 1)) (ht : (r + 2 ^ i) * (r + 2 ^ i) ≤ a) : SqB a (r + 2 ^ i) i := by
  refine ⟨ht, ?_⟩
  have h2 := h.2
  rw [show r + 2 ^ (i + 1) = r + 2 ^ i + 2 ^ i by rw [Nat.pow_succ]; omega] at h2
  exact h2

theorem SqB.leave {a r i : Nat} (h : SqB a r (i + 1)) (ht : a < (r + 2 ^ i) * (r + 2 ^ i)) : SqB a r i := ⟨h.1, ht⟩

theorem SqB.fin {a r : Nat} (h : SqB a r 0) : SqSpec a r 0 := .inr ⟨by omega, rfl, r, a, rfl, rfl, h.1, by have := h.2; rwa [Nat.pow_zero] at this⟩
theorem SqB.le {a r i : Nat} (h : SqB a r i) : r ≤ a := by
  rcases Nat.eq_zero_or_pos r with h0 | h0
  · omega
  · have := h.1
    have h3 : r * 1 ≤ r * r := Nat.mul_le_mul_left _ h0
    omega
end Go.Proofs.YteicjbinginamaaDoor
