/- Decimal notation, plain. -/
import Derived.Test.YtociocengfjioaaGreatDoorBase
import Derived.Lib.ItoaNum
namespace Go.Proofs.YtociocengfjioaaGreatDoor
/-- the bytes of the decimal notation of a number -/
def dec (n : Nat) : List Nat := (Lib.decDigits n).map UInt8.toNat
theorem dec_str (n : Nat) : strOf (dec n) = ⟨(Lib.decDigits n).toArray⟩ := by
  unfold strOf dec
  simp [List.map_map, Function.comp_def]
theorem dec_small {n : Nat} (h : n < 10) : dec n = [48 + n] := by
  unfold dec
  rw [Lib.decDigits_one h]
  simp
  omega
theorem dec_big {n : Nat} (h : 10 ≤ n) : dec n = dec (n / 10) ++ [48 + n % 10] := by
  unfold dec
  rw [Lib.decDigits, dif_neg (by omega)]
  simp
  omega
theorem dec_len (n : Nat) : (dec n).length = Lib.nDigits n := by unfold dec; rw [List.length_map, Lib.decDigits_length]
theorem dec_pos (n : Nat) : 1 ≤ (dec n).length := by rw [dec_len]; exact Lib.nDigits_pos n
theorem dec_ne (n : Nat) : dec n ≠ [] := fun h => by have := dec_pos n; rw [h] at this; simp at this
theorem dec_digit (n : Nat) : ∀ x ∈ dec n, 48 ≤ x ∧ x ≤ 57 := by
  induction n using Nat.strongRecOn with
  | _ n ih =>
    intro x hx
    by_cases h : n < 10
    · rw [dec_small h] at hx; simp at hx; omega
    · rw [dec_big (by omega)] at hx
      rcases List.mem_append.1 hx with h1 | h1
      · exact ih (n / 10) (by omega) x h1
      · simp at h1; omega
theorem dec_lt256 (n : Nat) : ∀ x ∈ dec n, x < 256 := fun x hx => by have := dec_digit n x hx; omega
theorem dec_len_le {n k : Nat} (h : n < 10 ^ (k + 1)) : (dec n).length ≤ k + 1 := by
  induction k generalizing n with
  | zero => rw [dec_small (by simpa using h)]; simp
  | succ k ih =>
    by_cases h2 : n < 10
    · rw [dec_small h2]; simp
    · rw [dec_big (by omega), List.length_append]
      have := ih (n := n / 10) (by rw [Nat.pow_succ] at h; omega)
      simp; omega
/-- k decimal digits, with leading zeros -/
def pad (k n : Nat) : List Nat := match k with
  | 0 => []
  | k + 1 => pad k (n / 10) ++ [48 + n % 10]
theorem pad_len (k n : Nat) : (pad k n).length = k := by
  induction k generalizing n with
  | zero => rfl
  | succ k ih => simp [pad, ih]
theorem pad_zero (k : Nat) : pad k 0 = List.replicate k 48 := by
  induction k with
  | zero => rfl
  | succ k ih => rw [pad, Nat.zero_div, ih, List.replicate_succ']
theorem dec_pad (k : Nat) : ∀ n, 10 ^ k ≤ n → dec n = dec (n / 10 ^ k) ++ pad k (n % 10 ^ k) := by
  induction k with
  | zero => intro n _; simp [pad]
  | succ k ih =>
    intro n h
    have h1 : 10 ^ k ≥ 1 := Nat.one_le_pow _ _ (by omega)
    have e : (10 : Nat) ^ (k + 1) = 10 * 10 ^ k := by rw [Nat.pow_succ, Nat.mul_comm]
    rw [e] at h
    rw [dec_big (by omega), ih (n / 10) (by omega), pad, List.append_assoc]
    rw [e, Nat.div_div_eq_div_mul, Nat.mod_mul_right_div_self, Nat.mod_mul_right_mod]
theorem pad_dec (k : Nat) : ∀ n, n < 10 ^ (k + 1) → pad (k + 1) n = List.replicate (k + 1 - (dec n).length) 48 ++ dec n := by
  induction k with
  | zero =>
    intro n h
    have h' : n < 10 := by simpa using h
    rw [dec_small h', pad, pad]; simp; omega
  | succ k ih =>
    intro n h
    by_cases h2 : n < 10
    · rw [dec_small h2, pad, show n / 10 = 0 by omega, pad_zero]
      simp
      omega
    · rw [pad, ih (n / 10) (by rw [Nat.pow_succ] at h; omega), dec_big (by omega : 10 ≤ n), ← List.append_assoc]
      simp
end Go.Proofs.YtociocengfjioaaGreatDoor
