/- The plain function of DecodeUint. -/
import Derived.Test.YthiihejbjfmbkaaWirePlain
namespace Go.Proofs.Ythiihejbjfmbkaa
/-- fuel, what is left, the index, the number so far; gives the number, the bytes used, the error -/
def decGo : Nat → List Nat → Nat → Nat → Nat × Nat × Nat
  | 0, _, _, _ => (0, 0, 2)
  | _ + 1, [], _, _ => (0, 0, 3)
  | f + 1, b :: r, i, n => if 128 ≤ b then decGo f r (i + 1) (n + b % 128 * 2 ^ (7 * i)) else if (b = 0 ∧ 0 < i) ∨ 4611686018427387904 < n + b % 128 * 2 ^ (7 * i) then (0, 0, 2) else (n + b % 128 * 2 ^ (7 * i), i + 1, 0)
def decU (xs : List Nat) : Nat × Nat × Nat := decGo 9 xs 0 0
def RetDec (r : Nat × Nat × Nat) (w : World) (e : Ending) (w' : World) : Prop := e = .returned (.tuple #[.int .i64 (r.1 : Int), .int .i64 (r.2.1 : Int), .int .i64 (r.2.2 : Int)]) ∧ w = w'

theorem decGo_nil (f i n : Nat) : decGo (f + 1) [] i n = (0, 0, 3) := rfl
theorem decGo_more (f b i n : Nat) (r : List Nat) (h : 128 ≤ b) : decGo (f + 1) (b :: r) i n = decGo f r (i + 1) (n + b % 128 * 2 ^ (7 * i)) := by rw [decGo, if_pos h]
theorem decGo_bad (f b i n : Nat) (r : List Nat) (h : b < 128) (h2 : (b = 0 ∧ 0 < i) ∨ 4611686018427387904 < n + b % 128 * 2 ^ (7 * i)) : decGo (f + 1) (b :: r) i n = (0, 0, 2) := by rw [decGo, if_neg (by omega), if_pos h2]
theorem decGo_good (f b i n : Nat) (r : List Nat) (h : b < 128) (h2 : ¬ ((b = 0 ∧ 0 < i) ∨ 4611686018427387904 < n + b % 128 * 2 ^ (7 * i))) : decGo (f + 1) (b :: r) i n = (n + b % 128 * 2 ^ (7 * i), i + 1, 0) := by rw [decGo, if_neg (by omega), if_neg h2]
theorem drop_getD (xs : List Nat) (k : Nat) (h : k < xs.length) : xs.drop k = xs.getD k 0 :: xs.drop (k + 1) := by
  rw [List.drop_eq_getElem_cons h, List.getD_eq_getElem?_getD, List.getElem?_eq_getElem h]; rfl
theorem pow7_le {k : Nat} (h : k < 9) : (2 : Nat) ^ (7 * k) ≤ 72057594037927936 := Nat.pow_le_pow_right (n := 2) (by omega) (show 7 * k ≤ 56 by omega)
theorem grp_lt {z k t : Nat} (hz : z < 128) (ht : t < 2 ^ (7 * k)) : t + z * 2 ^ (7 * k) < 2 ^ (7 * (k + 1)) := by
  have e : 2 ^ (7 * (k + 1)) = 128 * 2 ^ (7 * k) := by rw [show 7 * (k + 1) = 7 * k + 7 by omega, Nat.pow_add]; omega
  rw [e]
  generalize 2 ^ (7 * k) = p at *
  have : z * p ≤ 127 * p := Nat.mul_le_mul_right _ (by omega)
  omega
theorem or_grp {z k t : Nat} (ht : t < 2 ^ (7 * k)) : t ||| z * 2 ^ (7 * k) = t + z * 2 ^ (7 * k) := by
  rw [Nat.or_comm, nat_join (7 * k) _ t (Nat.mul_mod_left _ _) ht]; omega
theorem i64_or_nn (a b : Nat) (ha : a < 9223372036854775808) (hb : b < 9223372036854775808) : bits .or .i64 (a : Int) (b : Int) = ((a ||| b : Nat) : Int) := by
  have hx : a ||| b < 2 ^ 63 := Nat.or_lt_two_pow (by omega) (by omega)
  show IntKind.i64.wrap ((BitVec.ofInt 64 (a : Int) ||| BitVec.ofInt 64 (b : Int)).toNat : Int) = _
  rw [BitVec.toNat_or, BitVec.ofInt_natCast, BitVec.ofInt_natCast, BitVec.toNat_ofNat, BitVec.toNat_ofNat, Nat.mod_eq_of_lt (by omega), Nat.mod_eq_of_lt (by omega), IntKind.wrap_i64]
  omega
theorem u8_and127 (y : Nat) (h : y < 256) : bits .and .u8 (y : Int) 127 = ((y % 128 : Nat) : Int) := by
  have := u8_and_nat y 127 h (by omega)
  rw [nat_mask7] at this
  exact this
theorem u8_and128 (y : Nat) (h : y < 256) : bits .and .u8 (y : Int) 128 = if 128 ≤ y then 128 else 0 := by
  have := u8_and_nat y 128 h (by omega)
  have e : y &&& 128 = y / 128 % 2 * 128 := nat_bit 7 y
  rw [e] at this
  rw [show (128 : Int) = ((128 : Nat) : Int) from rfl, this]
  split <;> omega

theorem dec_facts (y t k : Nat) (hy : y < 256) (hk : k < 9) (ht : t < 2 ^ (7 * k)) : ∃ z p q : Nat, bits .and .u8 (y : Int) 127 = (z : Int) ∧ z < 128 ∧ RowKit.wrap64 ((z : Int) * 2 ^ (7 * k)) = (p : Int) ∧ IntKind.u64.wrap ((z : Int) * 2 ^ (7 * k)) = (p : Int) ∧
    bits .or .i64 (t : Int) (p : Int) = (q : Int) ∧ bits .or .u64 (t : Int) (p : Int) = (q : Int) ∧ q ≤ 9223372036854775807 ∧ q < 2 ^ (7 * (k + 1)) ∧ q = t + y % 128 * 2 ^ (7 * k) := by
  have hg := grp_lt (z := y % 128) (by omega) ht
  have hgo := or_grp (z := y % 128) ht
  have hlg : (2 : Nat) ^ (7 * (k + 1)) ≤ 9223372036854775808 := Nat.pow_le_pow_right (n := 2) (by omega) (show 7 * (k + 1) ≤ 63 by omega)
  have hc : ((y % 128 * 2 ^ (7 * k) : Nat) : Int) = ((y % 128 : Nat) : Int) * 2 ^ (7 * k) := by simp
  have hz : y % 128 < 128 := by omega
  have h1 := u8_and127 y hy
  generalize y % 128 = z at *
  generalize hp : z * 2 ^ (7 * k) = p at *
  generalize (2 : Nat) ^ (7 * (k + 1)) = P1 at *
  have h2 := i64_or_nn t p (by omega) (by omega)
  have h3 := u64_or_nat t p (by omega) (by omega)
  rw [hgo] at h2 h3
  refine ⟨z, p, t + p, h1, hz, ?_, ?_, h2, h3, by omega, hg, rfl⟩
  · rw [← hc, IntWalk.wrap64_in]; omega
  · rw [← hc, IntWalk.u64_in]; omega

/-- what DecodeUint gives lies in its bounds -/
theorem decGo_bd : ∀ (f : Nat) (r : List Nat) (i n : Nat), (decGo f r i n).2.2 = 0 → (decGo f r i n).1 ≤ 4611686018427387904 ∧ i < (decGo f r i n).2.1 ∧ (decGo f r i n).2.1 ≤ i + r.length ∧ (decGo f r i n).2.1 ≤ i + f
  | 0, _, _, _, h => by simp [decGo] at h
  | _ + 1, [], _, _, h => by simp [decGo] at h
  | f + 1, b :: r, i, n, h => by
    by_cases hb : 128 ≤ b
    · rw [decGo_more f b i n r hb] at h ⊢
      have := decGo_bd f r (i + 1) _ h
      simp only [List.length_cons]
      omega
    · by_cases h2 : (b = 0 ∧ 0 < i) ∨ 4611686018427387904 < n + b % 128 * 2 ^ (7 * i)
      · rw [decGo_bad f b i n r (by omega) h2] at h
        simp at h
      · rw [decGo_good f b i n r (by omega) h2]
        simp only [List.length_cons]
        omega
theorem decU_bd (xs : List Nat) (h : (decU xs).2.2 = 0) : (decU xs).1 ≤ 4611686018427387904 ∧ 0 < (decU xs).2.1 ∧ (decU xs).2.1 ≤ xs.length ∧ (decU xs).2.1 ≤ 9 := by
  have := decGo_bd 9 xs 0 0 h
  unfold decU
  omega
theorem decGo_err : ∀ (f : Nat) (r : List Nat) (i n : Nat), (decGo f r i n).2.2 ≤ 3 ∧ ((decGo f r i n).2.2 ≠ 0 → decGo f r i n = (0, 0, (decGo f r i n).2.2))
  | 0, _, _, _ => by simp [decGo]
  | _ + 1, [], _, _ => by simp [decGo]
  | f + 1, b :: r, i, n => by
    by_cases hb : 128 ≤ b
    · rw [decGo_more f b i n r hb]
      exact decGo_err f r (i + 1) _
    · by_cases h2 : (b = 0 ∧ 0 < i) ∨ 4611686018427387904 < n + b % 128 * 2 ^ (7 * i)
      · rw [decGo_bad f b i n r (by omega) h2]
        simp
      · rw [decGo_good f b i n r (by omega) h2]
        simp
theorem decU_err (xs : List Nat) : (decU xs).2.2 ≤ 3 ∧ ((decU xs).2.2 ≠ 0 → decU xs = (0, 0, (decU xs).2.2)) := decGo_err 9 xs 0 0

def unzig (u : Nat) : Int := if u % 2 = 1 then -((u / 2 : Nat) + 1 : Int) else ((u / 2 : Nat) : Int)
def decI (xs : List Nat) : Int × Nat × Nat := if (decU xs).2.2 = 0 then (unzig (decU xs).1, (decU xs).2.1, 0) else (0, 0, (decU xs).2.2)
def RetDecI (r : Int × Nat × Nat) (w : World) (e : Ending) (w' : World) : Prop := e = .returned (.tuple #[.int .i64 r.1, .int .i64 (r.2.1 : Int), .int .i64 (r.2.2 : Int)]) ∧ w = w'
def decT (xs : List Nat) : List Nat × Nat × Nat :=
  if (decU xs).2.2 ≠ 0 then ([], 0, (decU xs).2.2) else if 20000 < (decU xs).1 then ([], 0, 2) else if xs.length - (decU xs).2.1 < (decU xs).1 then ([], 0, 3) else ((xs.drop (decU xs).2.1).take (decU xs).1, (decU xs).2.1 + (decU xs).1, 0)
def RetDecT (r : List Nat × Nat × Nat) (w : World) (e : Ending) (w' : World) : Prop := e = .returned (.tuple #[.string (strOf r.1), .int .i64 (r.2.1 : Int), .int .i64 (r.2.2 : Int)]) ∧ w = w'
end Go.Proofs.Ythiihejbjfmbkaa
