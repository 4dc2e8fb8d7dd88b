/- Bounds on the lengths of integers; boxes. -/
import Derived.Test.YtflajoflpkboiaaGreatLight
namespace Go.Proofs.YtflajoflpkboiaaGreat
open Go.RowKit
set_option linter.unusedVariables false

/-- an integer of at most k digits -/
def Lim (k : Nat) (z : Int) : Prop := z.natAbs < 4294967296 ^ k
theorem Lim.mono {k j : Nat} {z : Int} (h : Lim k z) (hk : k ≤ j) : Lim j z := Nat.lt_of_lt_of_le h (Nat.pow_le_pow_right (by omega) hk)
theorem Lim.add {k : Nat} {x y : Int} (h : Lim k x) (h' : Lim k y) : Lim (k + 1) (x + y) := by
 unfold Lim at *
 rw [Nat.pow_succ]
 have := Int.natAbs_add_le x y
 generalize 4294967296 ^ k = B at *
 omega
theorem Lim.sub {k : Nat} {x y : Int} (h : Lim k x) (h' : Lim k y) : Lim (k + 1) (x - y) := by
 unfold Lim at *
 rw [Nat.pow_succ]
 have := Int.natAbs_sub_le x y
 generalize 4294967296 ^ k = B at *
 omega
theorem Lim.mul {k j : Nat} {x y : Int} (h : Lim k x) (h' : Lim j y) : Lim (k + j) (x * y) := by
 unfold Lim at *
 rw [Nat.pow_add, Int.natAbs_mul]
 exact Nat.mul_lt_mul'' h h'
theorem Lim.neg {k : Nat} {x : Int} (h : Lim k x) : Lim k (-x) := by unfold Lim at *; rwa [Int.natAbs_neg]
theorem AInt.lim {w : World} {neg : Bool} {A : Option Addr} {n c : Nat} {z : Int} (h : AInt w neg A n c z) : Lim n z := by
 obtain ⟨ds, h1, h2, h3, h4, rfl⟩ := h
 unfold Lim
 rw [sgn_natAbs, ← h1.len]
 exact val_lt h2
theorem CInt.len {w : World} {neg : Bool} {A : Option Addr} {n c : Nat} {z : Int} (h : CInt w neg A n c z) {k : Nat} (hk : Lim k z) : n ≤ k := h.len_le hk
theorem fdiv_abs_pos (x : Int) {y : Int} (h0 : 0 < y) : (x.fdiv y).natAbs ≤ x.natAbs + 1 := by
 have h1 := Int.fmod_add_mul_fdiv x y
 have h2 : 0 ≤ x.fmod y ∧ x.fmod y < y := ⟨Int.fmod_nonneg_of_pos x h0, Int.fmod_lt_of_pos x h0⟩
 generalize x.fmod y = r at *
 generalize x.fdiv y = q at *
 by_cases hq : 0 ≤ q
 ·have : 1 * q ≤ y * q := Int.mul_le_mul_of_nonneg_right (by omega) hq
  omega
 ·have h3 : y * q + y = y * (q + 1) := by rw [Int.mul_add, Int.mul_one]
  have : y * (q + 1) ≤ 1 * (q + 1) := Int.mul_le_mul_of_nonpos_right (by omega) (by omega)
  omega
theorem fdiv_abs (x y : Int) : (x.fdiv y).natAbs ≤ x.natAbs + 1 := by
 by_cases hy : y = 0
 ·subst hy; simp
 ·rcases Int.lt_or_gt_of_ne hy with h0 | h0
  ·have := fdiv_abs_pos (-x) (y := -y) (by omega)
   rw [Int.neg_fdiv_neg] at this
   omega
  ·exact fdiv_abs_pos x h0
theorem fmod_neg_neg (x y : Int) : x.fmod y = -((-x).fmod (-y)) := by
 have h1 := Int.fmod_add_mul_fdiv x y
 have h2 := Int.fmod_add_mul_fdiv (-x) (-y)
 rw [Int.neg_fdiv_neg, Int.neg_mul] at h2
 omega
/-- a remainder has the sign of the divisor and a smaller absolute value -/
theorem fmod_sign (x : Int) {y : Int} (hy : y ≠ 0) : (0 < y → 0 ≤ x.fmod y ∧ x.fmod y < y) ∧ (y < 0 → y < x.fmod y ∧ x.fmod y ≤ 0) := by
 constructor
 ·intro h0; exact ⟨Int.fmod_nonneg_of_pos x h0, Int.fmod_lt_of_pos x h0⟩
 ·intro h0
  have h1 := Int.fmod_nonneg_of_pos (-x) (b := -y) (by omega)
  have h2 := Int.fmod_lt_of_pos (-x) (b := -y) (by omega)
  rw [fmod_neg_neg x y]
  omega
theorem Lim.fdiv {k : Nat} {x : Int} (h : Lim k x) (y : Int) : Lim (k + 1) (x.fdiv y) := by
 unfold Lim at *
 rw [Nat.pow_succ]
 have := fdiv_abs x y
 have h1 : 1 ≤ 4294967296 ^ k := Nat.one_le_pow _ _ (by omega)
 generalize 4294967296 ^ k = B at *
 omega
theorem fmod_abs {x y : Int} (hy : y ≠ 0) : (x.fmod y).natAbs < y.natAbs := by
 have := fmod_sign x hy
 rcases Int.lt_or_gt_of_ne hy with h0 | h0
 ·have := this.2 h0; omega
 ·have := this.1 h0; omega
theorem Lim.fmod {k : Nat} {x y : Int} (h : Lim k y) (hy : y ≠ 0) : Lim k (x.fmod y) := Nat.lt_trans (fmod_abs hy) h
end Go.Proofs.YtflajoflpkboiaaGreat
