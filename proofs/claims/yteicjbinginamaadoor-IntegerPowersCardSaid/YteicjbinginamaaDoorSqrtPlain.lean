/- Plain lemmas for Sqrt. -/
import Derived.Test.YteicjbinginamaaDoorPowR
namespace Go.Proofs.YteicjbinginamaaDoor
open Go.RowKit
set_option linter.unusedVariables false

def SqSpec (x z code : Int) : Prop := (x < 0 ∧ z = 0 ∧ code = 5) ∨ (0 ≤ x ∧ code = 0 ∧ ∃ s a : Nat, z = s ∧ x = a ∧ s * s ≤ a ∧ a < (s + 1) * (s + 1))
theorem sq_uniq {s t a : Nat} (h1 : s * s ≤ a) (h2 : a < (s + 1) * (s + 1)) (h3 : t * t ≤ a) (h4 : a < (t + 1) * (t + 1)) : s = t := by
  rcases Nat.lt_trichotomy s t with h | h | h
  · have := Nat.mul_le_mul h h
    simp only [Nat.succ_eq_add_one] at this
    omega
  · exact h
  · have := Nat.mul_le_mul h h
    simp only [Nat.succ_eq_add_one] at this
    omega
theorem SqSpec.uniq {x z z' code code' : Int} (h : SqSpec x z code) (h' : SqSpec x z' code') : z = z' ∧ code = code' := by
  rcases h with ⟨h1, rfl, rfl⟩ | ⟨h1, rfl, s, a, rfl, rfl, h2, h3⟩
  · rcases h' with ⟨_, rfl, rfl⟩ | ⟨h4, _⟩
    · exact ⟨rfl, rfl⟩
    · omega
  · rcases h' with ⟨h4, _⟩ | ⟨_, rfl, t, b, rfl, e, h4, h5⟩
    · omega
    · have : a = b := by omega
      subst this
      rw [sq_uniq h2 h3 h4 h5]
      exact ⟨rfl, rfl⟩
theorem newton_ge {a x s : Nat} (hx : 0 < x) (hs : s * s ≤ a) : s ≤ (x + a / x) / 2 := by
  by_cases h : 2 * s ≤ x
  · generalize a / x = q
    omega
  · have h1 : (2 * s - x) * x ≤ a := by
      obtain ⟨d, hd⟩ : ∃ d, 2 * s = x + d := ⟨2 * s - x, by omega⟩
      rw [show 2 * s - x = d by omega]
      have h4 : 4 * (d * x) ≤ (x + d) * (x + d) := by
        rcases Nat.le_total x d with hxd | hxd
        · obtain ⟨k, rfl⟩ := Nat.exists_eq_add_of_le hxd
          have : (x + (x + k)) * (x + (x + k)) = 4 * ((x + k) * x) + k * k := by
            simp only [Nat.add_mul, Nat.mul_add, Nat.mul_comm]
            omega
          omega
        · obtain ⟨k, rfl⟩ := Nat.exists_eq_add_of_le hxd
          have : (d + k + d) * (d + k + d) = 4 * (d * (d + k)) + k * k := by
            simp only [Nat.add_mul, Nat.mul_add, Nat.mul_comm]
            omega
          omega
      have h5 : (x + d) * (x + d) = 4 * (s * s) := by
        rw [← hd]
        simp only [Nat.mul_comm, Nat.mul_left_comm, Nat.mul_assoc]
      omega
    have h2 : 2 * s - x ≤ a / x := (Nat.le_div_iff_mul_le hx).2 h1
    generalize a / x = q at *
    omega
theorem newton_end {a x : Nat} (hx : 0 < x) (h : x ≤ (x + a / x) / 2) : x * x ≤ a := by
  have h1 : x ≤ a / x := by generalize a / x = q at *; omega
  exact (Nat.le_div_iff_mul_le hx).1 h1
theorem sq_le {s x a : Nat} (h : a < x * x) (hs : s * s ≤ a) : s ≤ x := by
  rcases Nat.le_total s x with h1 | h1
  · exact h1
  · have := Nat.mul_le_mul h1 h1
    omega
theorem sq_exists (a : Nat) : ∃ s, s * s ≤ a ∧ a < (s + 1) * (s + 1) := by
  induction a with
  | zero => exact ⟨0, by omega, by omega⟩
  | succ a ih =>
    obtain ⟨s, h1, h2⟩ := ih
    by_cases h : (s + 1) * (s + 1) ≤ a + 1
    · refine ⟨s + 1, h, ?_⟩
      have : (s + 1 + 1) * (s + 1 + 1) = (s + 1) * (s + 1) + 2 * (s + 1) + 1 := by simp only [Nat.add_mul, Nat.mul_add]; omega
      omega
    · exact ⟨s, by omega, by omega⟩
theorem start_gt (a : Nat) : a < 2 ^ ((blen a + 1) / 2) * 2 ^ ((blen a + 1) / 2) := by
  have h1 := blen_lt a
  have h2 : 2 ^ blen a ≤ 2 ^ ((blen a + 1) / 2 + (blen a + 1) / 2) := Nat.pow_le_pow_right (by omega) (by omega)
  rw [← Nat.pow_add]
  omega
end Go.Proofs.YteicjbinginamaaDoor
