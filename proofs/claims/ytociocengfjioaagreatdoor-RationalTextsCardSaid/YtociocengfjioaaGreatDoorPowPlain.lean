/- Plain lemmas for Pow. -/
import Derived.Test.YtociocengfjioaaGreatDoorRefH
namespace Go.Proofs.YtociocengfjioaaGreatDoor
open Go.RowKit
set_option linter.unusedVariables false

theorem Lim.pow {k : Nat} {x : Int} (h : Lim k x) (r : Nat) : Lim (k * r + 1) (x ^ r) := by
  induction r with
  | zero => unfold Lim; simp
  | succ r ih =>
    rw [Int.pow_succ]
    have := ih.mul h
    exact this.mono (by rw [Nat.mul_succ]; omega)
theorem pow_step {x : Int} {r e kk k : Nat} (h : r + e * kk = k) (hk : 0 < kk) :
    (kk % 2 = 1 → r + e + (2 * e) * (kk / 2) = k) ∧ (kk % 2 = 0 → r + (2 * e) * (kk / 2) = k) ∧ (kk / 2 = 0 → kk % 2 = 1 ∧ r + e = k) := by
  have h1 : kk = 2 * (kk / 2) + kk % 2 := by omega
  have h2 : (2 * e) * (kk / 2) = e * (2 * (kk / 2)) := by rw [Nat.mul_comm 2 e, Nat.mul_assoc]
  refine ⟨fun ho => ?_, fun he => ?_, fun h0 => ?_⟩
  · rw [h2, ← h]
    have : e * kk = e * (2 * (kk / 2)) + e := by conv => lhs; rw [h1, ho, Nat.mul_add, Nat.mul_one]
    omega
  · rw [h2, ← h]
    have : e * kk = e * (2 * (kk / 2)) := by conv => lhs; rw [h1, he, Nat.add_zero]
    omega
  · have : kk = 1 := by omega
    subst this
    exact ⟨rfl, by omega⟩
theorem and_one (k : Nat) (h : k ≤ 64) : bits .and .i64 (k : Int) 1 = ((k % 2 : Nat) : Int) := by
  have : ∀ j : Fin 65, bits .and .i64 ((j.val : Nat) : Int) 1 = ((j.val % 2 : Nat) : Int) := by decide
  exact this ⟨k, by omega⟩
/-- an integer and an error code -/
def RetIE (w : World) (z code : Int) (e : Ending) (w' : World) : Prop :=
  ∃ s A n c, e = .returned (.tuple #[.agg #[.bool s, .slice A n c], .int .i64 code]) ∧ CInt w' s A n c z ∧ Below w.heap.size w w'
end Go.Proofs.YtociocengfjioaaGreatDoor
