/- The plain mathematics of the checksum: the table's way and the bit by bit way agree. -/
import Derived.Test.YthiihejbjfmbkaaBase
namespace Go.Proofs.Ythiihejbjfmbkaa
def crcStep (r : Nat) : Nat := if r % 2 = 1 then (r / 2) ^^^ 2197175160 else r / 2
def crcIter : Nat → Nat → Nat
  | 0, r => r
  | n + 1, r => crcStep (crcIter n r)
theorem crcStep_lt {r : Nat} (h : r < 4294967296) : crcStep r < 4294967296 := by
  unfold crcStep
  split
  · exact Nat.xor_lt_two_pow (n := 32) (by omega) (by omega)
  · omega
theorem crcIter_lt {r : Nat} (h : r < 4294967296) : ∀ n, crcIter n r < 4294967296
  | 0 => h
  | n + 1 => crcStep_lt (crcIter_lt h n)
theorem xor_half (a b : Nat) : (a ^^^ b) / 2 = a / 2 ^^^ b / 2 := by
  have := Nat.shiftRight_xor_distrib (a := a) (b := b) (i := 1)
  simpa [Nat.shiftRight_eq_div_pow] using this
theorem xor_par (a b : Nat) : (a ^^^ b) % 2 = (a % 2 + b % 2) % 2 := by
  have h := Nat.xor_mod_two_pow (a := a) (b := b) (n := 1)
  simp only [Nat.pow_one] at h
  rw [h]
  rcases Nat.mod_two_eq_zero_or_one a with ha | ha <;> rcases Nat.mod_two_eq_zero_or_one b with hb | hb <;> simp [ha, hb]
theorem crcStep_xor (a b : Nat) : crcStep (a ^^^ b) = crcStep a ^^^ crcStep b := by
  unfold crcStep
  rw [xor_half, xor_par]
  rcases Nat.mod_two_eq_zero_or_one a with ha | ha <;> rcases Nat.mod_two_eq_zero_or_one b with hb | hb <;> simp [ha, hb]
  · rw [Nat.xor_assoc]
  · rw [Nat.xor_assoc, Nat.xor_assoc, Nat.xor_comm (b / 2)]
  · rw [Nat.xor_assoc, ← Nat.xor_assoc 2197175160, Nat.xor_comm 2197175160 (b / 2), Nat.xor_assoc (b / 2), Nat.xor_self, Nat.xor_zero]
theorem crcIter_xor (a b : Nat) : ∀ n, crcIter n (a ^^^ b) = crcIter n a ^^^ crcIter n b
  | 0 => rfl
  | n + 1 => by simp only [crcIter, crcIter_xor a b n, crcStep_xor]
theorem crcIter_shift (y : Nat) : ∀ n m, crcIter n (y * 2 ^ (n + m)) = y * 2 ^ m
  | 0, m => by simp [crcIter]
  | n + 1, m => by
    have h := crcIter_shift y n (m + 1)
    rw [show n + (m + 1) = n + 1 + m by omega] at h
    simp only [crcIter, h, crcStep, Nat.pow_succ, ← Nat.mul_assoc]
    generalize y * 2 ^ m = z
    rw [if_neg (by omega)]
    omega
theorem split_low (x : Nat) : x = (x % 256) ^^^ (x / 256 * 2 ^ 8) := by
  apply Nat.eq_of_testBit_eq
  intro i
  rw [Nat.testBit_xor, show (256 : Nat) = 2 ^ 8 from rfl, Nat.testBit_mod_two_pow, Nat.testBit_mul_two_pow, Nat.testBit_div_two_pow]
  by_cases h : i < 8
  · simp [h, show ¬ 8 ≤ i by omega]
  · simp [h, show 8 ≤ i by omega, show i - 8 + 8 = i by omega]
theorem crc8 (x : Nat) : crcIter 8 x = crcIter 8 (x % 256) ^^^ x / 256 := by
  conv => lhs; rw [split_low x]
  rw [crcIter_xor]
  have h := crcIter_shift (x / 256) 8 0
  simp only [Nat.add_zero, Nat.pow_zero, Nat.mul_one] at h
  rw [h]

/-- the checksum's state after bytes -/
def crcRun (s : Nat) (xs : List Nat) : Nat := xs.foldl (fun s c => crcIter 8 (s ^^^ c)) s
def crc (xs : List Nat) : Nat := 4294967295 - crcRun 4294967295 xs
theorem crcRun_lt : ∀ (xs : List Nat) (s : Nat), s < 4294967296 → (∀ x ∈ xs, x < 256) → crcRun s xs < 4294967296
  | [], _, hs, _ => hs
  | x :: xs, s, hs, hx => by
    refine crcRun_lt xs _ (crcIter_lt ?_ 8) (fun y hy => hx y (List.mem_cons_of_mem _ hy))
    exact Nat.xor_lt_two_pow (n := 32) hs (by have := hx x List.mem_cons_self; omega)
theorem crcRun_snoc (s : Nat) (xs : List Nat) (c : Nat) : crcRun s (xs ++ [c]) = crcIter 8 (crcRun s xs ^^^ c) := by simp [crcRun]
/-- one byte by the table -/
theorem crc_tab (s c : Nat) (hc : c < 256) : crcIter 8 (s ^^^ c) = crcIter 8 (s % 256 ^^^ c) ^^^ s / 256 := by
  rw [crc8]
  have h1 : (s ^^^ c) % 256 = s % 256 ^^^ c := by
    rw [show (256 : Nat) = 2 ^ 8 from rfl, Nat.xor_mod_two_pow, Nat.mod_eq_of_lt (a := c) (by omega)]
  have h2 : (s ^^^ c) / 256 = s / 256 := by
    have := Nat.shiftRight_xor_distrib (a := s) (b := c) (i := 8)
    simp only [Nat.shiftRight_eq_div_pow] at this
    rw [show (256 : Nat) = 2 ^ 8 from rfl, this, Nat.div_eq_of_lt (a := c) (by omega), Nat.xor_zero]
  rw [h1, h2]
/-- the table as it is being filled -/
def tabTo (i : Nat) : List Nat := (List.range i).map (crcIter 8) ++ List.replicate (256 - i) 0
theorem tabTo_zero : tabTo 0 = List.replicate 256 0 := rfl
theorem tabTo_length {i : Nat} (h : i ≤ 256) : (tabTo i).length = 256 := by simp [tabTo]; omega
theorem tabTo_set {i : Nat} (h : i < 256) : (tabTo i).set i (crcIter 8 i) = tabTo (i + 1) := by
  unfold tabTo
  rw [List.set_append_right _ _ (by simp), List.range_succ, List.map_append, List.append_assoc]
  congr 1
  simp only [List.length_map, List.length_range, Nat.sub_self, List.map_cons, List.map_nil, List.singleton_append]
  rw [show 256 - i = (256 - (i + 1)) + 1 by omega, List.replicate_succ, List.set_cons_zero]
theorem tabTo_get {j : Nat} (h : j < 256) : (tabTo 256)[j]? = some (crcIter 8 j) := by
  simp [tabTo, h]
end Go.Proofs.Ythiihejbjfmbkaa
