/- Walks of math/bits.Len32, LeadingZeros32 and Len64. -/
import Derived.Test.YtociocengfjioaaGreatDoorProg
import Derived.Test.YtociocengfjioaaGreatDoorBase
namespace Go.Proofs.YtociocengfjioaaGreatDoor
open Go.RowKit
set_option linter.unusedVariables false
/-- the number of bits -/
def blen (x : Nat) : Nat := if x = 0 then 0 else Nat.log2 x + 1
theorem blen_zero : blen 0 = 0 := rfl
theorem blen_lt (x : Nat) : x < 2 ^ blen x := by
  unfold blen
  split
  · subst_vars; simp
  · exact Nat.lt_log2_self
theorem blen_ge {x : Nat} (h : x ≠ 0) : 2 ^ (blen x - 1) ≤ x := by
  unfold blen
  rw [if_neg h, Nat.add_sub_cancel]
  exact Nat.log2_self_le h
theorem blen_uniq {x k : Nat} (h1 : 2 ^ k ≤ x) (h2 : x < 2 ^ (k + 1)) : blen x = k + 1 := by
  have h0 : x ≠ 0 := by have := Nat.two_pow_pos k; omega
  unfold blen
  rw [if_neg h0, (Nat.log2_eq_iff h0).2 ⟨h1, h2⟩]
theorem blen_div (x j : Nat) (h : 2 ^ j ≤ x) : blen x = blen (x / 2 ^ j) + j := by
  have hj := Nat.two_pow_pos j
  have h0 : x / 2 ^ j ≠ 0 := by have := Nat.div_pos h hj; omega
  have h1 := blen_ge h0
  have h2 := blen_lt (x / 2 ^ j)
  have hb : 1 ≤ blen (x / 2 ^ j) := by unfold blen; rw [if_neg h0]; omega
  obtain ⟨k, hk⟩ : ∃ k, blen (x / 2 ^ j) = k + 1 := ⟨blen (x / 2 ^ j) - 1, by omega⟩
  rw [hk] at h1 h2 ⊢
  rw [Nat.add_sub_cancel] at h1
  rw [show k + 1 + j = (k + j) + 1 by omega]
  apply blen_uniq
  · rw [Nat.pow_add]; exact (Nat.le_div_iff_mul_le hj).1 h1
  · rw [show k + j + 1 = (k + 1) + j by omega, Nat.pow_add]; exact (Nat.div_lt_iff_lt_mul hj).1 h2
theorem blen_le {x k : Nat} (h : x < 2 ^ k) : blen x ≤ k := by
  by_cases h0 : x = 0
  · subst h0; rw [blen_zero]; omega
  · have := blen_ge h0
    rcases Nat.lt_or_ge k (blen x) with h1 | h1
    · have := Nat.pow_le_pow_right (n := 2) (by omega) (show k ≤ blen x - 1 by omega)
      omega
    · exact h1
def checkTab (t : ByteArray) : Bool := (List.range 256).all fun i => t.data.getD i 0 == UInt8.ofNat (blen i)
theorem tab_use (t : ByteArray) (hc : checkTab t = true) (x : Nat) (hx : x < 256) (h : x < t.size) : ((t[x]'h).toNat : Int) = (blen x : Nat) := by
  have h1 := List.all_eq_true.1 hc x (List.mem_range.2 hx)
  have h2 : t.data.getD x 0 = UInt8.ofNat (blen x) := by simpa using h1
  have h3 : t.data.getD x 0 = t[x]'h := by
    unfold Array.getD
    rw [dif_pos (show x < t.data.size from h)]
    rfl
  rw [← h3, h2]
  have : blen x ≤ 8 := blen_le (k := 8) hx
  simp
  omega
theorem ret_i64 {a b : Int} (h : a = b) : Ending.returned (.int .i64 a) = .returned (.int .i64 b) := by rw [h]
theorem tab_add (t : ByteArray) (hc : checkTab t = true) (x : Nat) (hx : x < 256) (h : x < t.size) (b : Nat) (hb : b ≤ 64) : wrap64 ((b : Int) + wrap64 ((t[x]'h).toNat : Int)) = ((blen x + b : Nat) : Int) := by
  rw [tab_use t hc x hx h]
  have : blen x ≤ 8 := blen_le (k := 8) hx
  unfold wrap64
  omega
theorem tab_zero (t : ByteArray) (hc : checkTab t = true) (x : Nat) (hx : x < 256) (h : x < t.size) : wrap64 (wrap64 ((t[x]'h).toNat : Int)) = ((blen x : Nat) : Int) := by
  rw [tab_use t hc x hx h]
  have : blen x ≤ 8 := blen_le (k := 8) hx
  unfold wrap64
  omega

set_option maxRecDepth 100000 in
theorem len32_any (x : Nat) (w : World) (h : x < 4294967296) : Calls Tryz.prog 172 #[.int .u32 x] w (fun e w' => e = .returned (.int .i64 (blen x : Nat)) ∧ w = w') := by
  by_cases h1 : x < 65536
  · have hd1 : decide ((65536 : Int) ≤ (x : Int)) = false := by simp; omega
    by_cases h2 : x < 256
    · have hd2 : decide ((256 : Int) ≤ (x : Int)) = false := by simp; omega
      go_enter Tryz.func172, Tryz.ntmps172
      go_wp2
      go_ret
      exact ⟨ret_i64 (tab_zero _ (by kernel_rfl) x h2 _), rfl⟩
    · have hd2 : decide ((256 : Int) ≤ (x : Int)) = true := by simp; omega
      have HB := Lib.hid (blen_div x 8 (by omega))
      have h3 : x / 256 < 256 := by omega
      go_enter Tryz.func172, Tryz.ntmps172
      go_wp2
      go_ret
      exact ⟨ret_i64 (by rw [HB.out]; exact tab_add _ (by kernel_rfl) (x / 256) h3 _ 8 (by omega)), rfl⟩
  · have hd1 : decide ((65536 : Int) ≤ (x : Int)) = true := by simp; omega
    by_cases h2 : x / 65536 < 256
    · have hd2 : decide ((256 : Int) ≤ (x : Int) / 65536) = false := by simp; omega
      have HB := Lib.hid (blen_div x 16 (by omega))
      go_enter Tryz.func172, Tryz.ntmps172
      go_wp2
      go_ret
      exact ⟨ret_i64 (by rw [HB.out]; exact tab_add _ (by kernel_rfl) (x / 65536) h2 _ 16 (by omega)), rfl⟩
    · have hd2 : decide ((256 : Int) ≤ (x : Int) / 65536) = true := by simp; omega
      have h3 : x / 65536 / 256 < 256 := by omega
      have HB : Hid (blen x = blen (x / 65536 / 256) + 24) := by
        have a := blen_div x 16 (by omega)
        have b := blen_div (x / 65536) 8 (by omega)
        unfold Hid
        rw [a, b]
      go_enter Tryz.func172, Tryz.ntmps172
      go_wp2
      go_ret
      exact ⟨ret_i64 (by rw [HB.out]; exact tab_add _ (by kernel_rfl) (x / 65536 / 256) h3 _ 24 (by omega)), rfl⟩

theorem leadingZeros32_any (x : Nat) (w : World) (h : x < 4294967296) : Calls Tryz.prog 158 #[.int .u32 x] w (fun e w' => e = .returned (.int .i64 ((32 - blen x : Nat) : Int)) ∧ w = w') := by
  have hb := blen_le (k := 32) h
  have hl := len32_any x w h
  generalize blen x = b at *
  have HL := Lib.hid hl
  clear hl h
  go_enter Tryz.func158, Tryz.ntmps158
  go_wp2_with fail
  refine HL.out.mono ?_
  rintro e w' ⟨rfl, rfl⟩
  go_wp2
  go_ret
  exact ⟨ret_i64 (by omega), rfl⟩
/-- the shift that brings the highest bit to the top -/
theorem norm_shift {x : Nat} (h0 : x ≠ 0) (h : x < 4294967296) : 32 - blen x < 32 ∧ 2147483648 ≤ x * 2 ^ (32 - blen x) ∧ (x + 1) * 2 ^ (32 - blen x) ≤ 4294967296 := by
  have hb := blen_le (k := 32) h
  have h1 := blen_ge h0
  have h2 := blen_lt x
  have hp : 1 ≤ blen x := by unfold blen; rw [if_neg h0]; omega
  generalize blen x = b at *
  refine ⟨by omega, ?_, ?_⟩
  · have := Nat.mul_le_mul_right (2 ^ (32 - b)) h1
    rw [← Nat.pow_add, show b - 1 + (32 - b) = 31 by omega] at this
    omega
  · have := Nat.mul_le_mul_right (2 ^ (32 - b)) (show x + 1 ≤ 2 ^ b by omega)
    rw [← Nat.pow_add, show b + (32 - b) = 32 by omega] at this
    omega
end Go.Proofs.YtociocengfjioaaGreatDoor
