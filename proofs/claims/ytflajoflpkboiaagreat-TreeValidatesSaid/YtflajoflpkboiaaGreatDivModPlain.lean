/- Floor division of signed numbers, plain. -/
import Derived.Test.YtflajoflpkboiaaGreatIntJ
namespace Go.Proofs.YtflajoflpkboiaaGreat
open Go.RowKit
set_option linter.unusedVariables false

theorem floor_unique {x y q r : Int} (hy : y ≠ 0) (h : x = y * q + r) (hr : (0 < y → 0 ≤ r ∧ r < y) ∧ (y < 0 → y < r ∧ r ≤ 0)) : x.fdiv y = q ∧ x.fmod y = r := by
 rcases Int.lt_or_gt_of_ne hy with h0 | h0
 ·have ⟨h1, h2⟩ := hr.2 h0
  have e : (-x).fdiv (-y) = q ∧ (-x).fmod (-y) = -r := by
   rw [Int.fdiv_eq_ediv_of_nonneg _ (by omega), Int.fmod_eq_emod_of_nonneg _ (by omega)]
   exact (Int.ediv_emod_unique (by omega)).2 ⟨by rw [h, Int.neg_mul]; omega, by omega, by omega⟩
  have m1 : x.fmod y + y * x.fdiv y = x := Int.fmod_add_mul_fdiv x y
  rw [Int.neg_fdiv_neg] at e
  refine ⟨e.1, ?_⟩
  rw [e.1] at m1
  omega
 ·have ⟨h1, h2⟩ := hr.1 h0
  rw [Int.fdiv_eq_ediv_of_nonneg _ (by omega), Int.fmod_eq_emod_of_nonneg _ (by omega)]
  exact (Int.ediv_emod_unique h0).2 ⟨by omega, h1, h2⟩

theorem floor_signed {s t : Bool} {a b : Nat} (hb : 0 < b) :
  (sgn s a).fdiv (sgn t b) = (if 0 < a % b ∧ s ≠ t then sgn (!(s == t)) (a / b + 1) else sgn (!(s == t)) (a / b)) ∧
  (sgn s a).fmod (sgn t b) = (if 0 < a % b ∧ s ≠ t then sgn t (b - a % b) else sgn t (a % b)) := by
 have h1 := Nat.div_add_mod a b
 have h2 := Nat.mod_lt a hb
 generalize a / b = q at *
 generalize a % b = r at *
 have h1' : (b : Int) * q + r = a := by rw [← h1]; simp
 have h3 : (b : Int) * (q + 1) = b * q + b := by rw [Int.mul_add, Int.mul_one]
 generalize hm : (b : Int) * q = m at *
 apply floor_unique
 ·cases t <;> simp [sgn] <;> omega
 ·cases s <;> cases t <;> simp [sgn] <;> (try split) <;> simp [Int.neg_mul, Int.mul_neg, hm, h3] <;> omega
 ·cases s <;> cases t <;> simp [sgn] <;> (try split) <;> constructor <;> intro _ <;> omega
end Go.Proofs.YtflajoflpkboiaaGreat
