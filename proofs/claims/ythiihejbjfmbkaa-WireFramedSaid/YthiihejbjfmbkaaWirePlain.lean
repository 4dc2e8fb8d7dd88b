/- Lemmas for the laws of this seat (part WirePlain): each is proved for all values of its variables, under the premises that it states. -/
import Derived.Test.YthiihejbjfmbkaaBase
namespace Go.Proofs.Ythiihejbjfmbkaa
open Go.RowKit

/-! ### the plain functions of the wire layer -/
/-- Seven-bit groups, the lowest first. -/
def encU (n : Nat) : List Nat := if n < 128 then [n] else (n % 128 + 128) :: encU (n / 128)
  termination_by n
  decreasing_by omega
theorem encU_lt {n : Nat} (h : n < 128) : encU n = [n] := by rw [encU, if_pos h]
theorem encU_ge {n : Nat} (h : 128 ≤ n) : encU n = (n % 128 + 128) :: encU (n / 128) := by rw [encU, if_neg (by omega)]
theorem encU_pos (n : Nat) : 0 < (encU n).length := by rw [encU]; split <;> simp
theorem encU_len : ∀ (j n : Nat), n < 128 ^ (j + 1) → (encU n).length ≤ j + 1 := by
  intro j
  induction j with
  | zero => intro n h; rw [encU_lt (by simpa using h)]; simp
  | succ j ih =>
    intro n h
    by_cases hn : n < 128
    · rw [encU_lt hn]; simp
    · rw [encU_ge (by omega)]
      have := ih (n / 128) (by rw [Nat.pow_succ] at h; omega)
      simp only [List.length_cons]; omega
theorem encU_len9 {n : Nat} (h : n ≤ 4611686018427387904) : (encU n).length ≤ 9 := encU_len 8 n (by omega)
theorem encU_byte : ∀ (j n : Nat), n < 128 ^ (j + 1) → ∀ x ∈ encU n, x < 256 := by
  intro j
  induction j with
  | zero => intro n h; rw [encU_lt (by simpa using h)]; simp at h ⊢; omega
  | succ j ih =>
    intro n h
    by_cases hn : n < 128
    · rw [encU_lt hn]; simp; omega
    · rw [encU_ge (by omega)]
      intro x hx
      rcases List.mem_cons.1 hx with rfl | hx
      · omega
      · exact ih (n / 128) (by rw [Nat.pow_succ] at h; omega) x hx
theorem encU_byte9 {n : Nat} (h : n ≤ 4611686018427387904) : ∀ x ∈ encU n, x < 256 := encU_byte 8 n (by omega)
theorem encU_300 : encU 300 = [172, 2] := by rw [encU_ge (by omega), encU_lt (by omega)]
theorem or128 (x : Nat) : bits .or .u8 ((x : Int) % 256) 128 = ((x % 128 + 128 : Nat) : Int) := by
  have h := u8_or_nat (x % 256) 128 (by omega) (by omega)
  have e : ((x % 256 : Nat) : Int) = (x : Int) % 256 := by omega
  rw [e] at h
  refine h.trans ?_
  have h2 : x % 256 ||| 128 = x % 128 + 128 := by
    by_cases hx : x % 256 < 128
    · rw [Nat.or_comm, nat_join 7 128 (x % 256) (by decide) (by omega)]; omega
    · have : x % 256 = 128 + x % 128 := by omega
      rw [this, ← nat_join 7 128 (x % 128) (by decide) (by omega), Nat.or_comm, ← Nat.or_assoc, Nat.or_self, nat_join 7 128 (x % 128) (by decide) (by omega)]; omega
  rw [h2]

theorem and127 (x : Nat) (h : x ≤ 9223372036854775807) : bits .and .i64 (x : Int) 127 = ((x % 128 : Nat) : Int) := by
  show IntKind.i64.wrap ((BitVec.ofInt 64 (x : Int) &&& BitVec.ofInt 64 127).toNat : Int) = _
  rw [BitVec.toNat_and, BitVec.ofInt_natCast, BitVec.toNat_ofNat, Nat.mod_eq_of_lt (by omega), IntKind.wrap_i64]
  have : x &&& (BitVec.ofInt 64 127).toNat = x % 128 := Nat.and_two_pow_sub_one_eq_mod x 7
  rw [this]
  omega
theorem or128' (x : Nat) (h : x < 128) : bits .or .u8 (x : Int) 128 = ((x + 128 : Nat) : Int) := by
  have := or128 x
  rw [show ((x : Int) % 256) = (x : Int) from by omega, Nat.mod_eq_of_lt h] at this
  exact this

theorem and3 (a : Int) : ∃ k : Nat, k < 4 ∧ bits .and .i64 a 3 = (k : Int) := by
  refine ⟨(BitVec.ofInt 64 a).toNat % 4, by omega, ?_⟩
  show IntKind.i64.wrap ((BitVec.ofInt 64 a &&& BitVec.ofInt 64 3).toNat : Int) = _
  rw [BitVec.toNat_and, IntKind.wrap_i64]
  have : (BitVec.ofInt 64 a).toNat &&& (BitVec.ofInt 64 3).toNat = (BitVec.ofInt 64 a).toNat % 4 := Nat.and_two_pow_sub_one_eq_mod _ 2
  rw [this]
  omega

/-- the number that a signed number is encoded by -/
def zig (n : Int) : Nat := if 0 ≤ n then (2 * n).toNat else (-2 * n - 1).toNat

/-- A new slice that the call owns, and an error number. -/
def RetOwnE (k : IntKind) (t : TypeId) (w : World) (xs : List Nat) (err : Int) (e : Ending) (w' : World) : Prop :=
  ∃ v, e = .returned (.tuple #[v, .int .i64 err]) ∧ Own k t w w' v xs
/-- A new slice that the call owns. -/
def RetOwn (k : IntKind) (t : TypeId) (w : World) (xs : List Nat) (e : Ending) (w' : World) : Prop :=
  ∃ v, e = .returned v ∧ Own k t w w' v xs

/-- what an encoder gives: bytes and an error number -/
def encI (n : Int) : List Nat × Int := if -2305843009213693952 ≤ n ∧ n ≤ 2305843009213693952 then (encU (zig n), 0) else ([], 5)
def encN (n : Int) : List Nat × Int := if 0 ≤ n ∧ n ≤ 4611686018427387904 then (encU n.toNat, 0) else ([], 5)
def encT (s : ByteArray) : List Nat × Int := if s.size ≤ 20000 then (encU s.size ++ bytesOf s, 0) else ([], 10)
theorem encT_len (s : ByteArray) : (encT s).1.length ≤ 20009 := by
  unfold encT
  split
  · have := encU_len9 (n := s.size) (by omega)
    simp only [List.length_append, bytesOf_length]
    omega
  · simp
end Go.Proofs.Ythiihejbjfmbkaa
