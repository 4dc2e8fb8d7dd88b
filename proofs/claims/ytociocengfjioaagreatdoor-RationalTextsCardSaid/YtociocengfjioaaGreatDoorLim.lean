/- Bounds on the lengths of integers; boxes. -/
import Derived.Test.YtociocengfjioaaGreatDoorSame
import Derived.Test.YtociocengfjioaaGreatDoorFormat
import Derived.Test.YtociocengfjioaaGreatDoorDivMod
/- Walks of Light and awake. -/
namespace Go.Proofs.YtociocengfjioaaGreatDoor
open Go.RowKit
set_option linter.unusedVariables false

theorem sum_take (ns : List Nat) (k : Nat) (h : k < ns.length) : (ns.take (k + 1)).sum = (ns.take k).sum + ns.getD k 0 := by
  rw [take_getD ns k h]; simp
theorem sum_take_le (ns : List Nat) (k : Nat) : (ns.take k).sum ≤ ns.sum := by
  conv => rhs; rw [← List.take_append_drop k ns, List.sum_append]
  omega

set_option maxHeartbeats 1000000 in
set_option maxRecDepth 100000 in
theorem light_any (g : Nat) (ns : List Nat) (N : Nat) (hN : ns.length = N) (w : World) (hc : ∀ i, i < ns.length → ∃ A c, w.cell? ⟨g, i * 2 + 1, none⟩ = some (.slice A (ns.getD i 0) c)) (hs : ns.sum ≤ 4611686018427387904) (hl : N ≤ 1000) :
    Calls Tryz.prog 35 #[.slice (some ⟨g, 0, none⟩) N N] w (RetV w (.bool (decide (ns.sum ≤ 60)))) := by
  have HC := Lib.hid hc
  have HN := Lib.hid hN
  clear hc hN
  go_enter Tryz.func35, Tryz.ntmps35
  go_wp2_with fail
  go_loop [3, 4] (fun nv i => ∃ k : Nat, k ≤ N ∧ i = .int .i64 (k : Int) ∧ nv = .int .i64 ((ns.take k).sum : Nat)) (fun _ i => N - (intOf i).toNat)
  case atStart => exact ⟨0, by omega, rfl, rfl⟩
  case round =>
    obtain ⟨k, hk, rfl, rfl⟩ := hrel
    have hle := sum_take_le ns k
    by_cases h0 : k < N
    · obtain ⟨A, c, hcell⟩ := HC.out k (by rw [HN.out]; exact h0)
      have HS := Lib.hid (sum_take ns k (by rw [HN.out]; exact h0))
      have hle2 := sum_take_le ns (k + 1)
      rw [HS.out] at hle2
      generalize ns.getD k 0 = x at *
      obtain ⟨z, hz⟩ : ∃ z, z = (ns.take (k + 1)).sum := ⟨_, rfl⟩
      have HZ := Lib.hid hz
      rw [← hz] at HS
      clear hz
      generalize (ns.take k).sum = y at *
      generalize ns.sum = S at *
      have i1 : (0 : Int) ≤ (k : Int) := by omega
      have i2 : (k : Int) < (N : Int) := by omega
      go_wp2
      go_round
      case rel => exact ⟨k + 1, by omega, by go_num, by rw [← HZ.out, HS.out]; go_num⟩
      case measure => simp [intOf] <;> omega
    · obtain rfl : k = N := by omega
      have HE : Hid ((ns.take k).sum = ns.sum) := by unfold Hid; rw [List.take_of_length_le (by rw [HN.out]; omega)]
      rw [HE.out]
      clear HE
      generalize ns.sum = S at *
      go_wp2
      go_ret
      exact ⟨by simp <;> omega, Below.refl _ _⟩

theorem CInt.len_le {w : World} {neg : Bool} {A : Option Addr} {n c : Nat} {z : Int} (h : CInt w neg A n c z) {k : Nat} (hk : z.natAbs < 4294967296 ^ k) : n ≤ k := by
  rw [← h.1.len]; exact digits_len_le hk
theorem str_m4 : strOf (decz true (Int.natAbs (-4))) = ⟨#[45, 52]⟩ := by rw [decz, if_pos (by decide), show Int.natAbs (-4) = 4 from rfl, dec_small (by omega)]; rfl
theorem str_1 : strOf (decz false (Int.natAbs 1)) = ⟨#[49]⟩ := by rw [decz, if_neg (by decide), show Int.natAbs 1 = 1 from rfl, dec_small (by omega)]; rfl

end Go.Proofs.YtociocengfjioaaGreatDoor

namespace Go.Proofs.YtociocengfjioaaGreatDoor
open Go.RowKit
set_option linter.unusedVariables false

/-- an integer of at most k digits -/
def Lim (k : Nat) (z : Int) : Prop := z.natAbs < 4294967296 ^ k
theorem Lim.mono {k j : Nat} {z : Int} (h : Lim k z) (hk : k ≤ j) : Lim j z := Nat.lt_of_lt_of_le h (Nat.pow_le_pow_right (by omega) hk)
theorem Lim.add {k : Nat} {x y : Int} (h : Lim k x) (h' : Lim k y) : Lim (k + 1) (x + y) := by
  unfold Lim at *
  rw [Nat.pow_succ]
  have := Int.natAbs_add_le x y
  generalize 4294967296 ^ k = B at *
  omega
theorem Lim.sub {k : Nat} {x y : Int} (h : Lim k x) (h' : Lim k y) : Lim (k + 1) (x - y) := by
  unfold Lim at *
  rw [Nat.pow_succ]
  have := Int.natAbs_sub_le x y
  generalize 4294967296 ^ k = B at *
  omega
theorem Lim.mul {k j : Nat} {x y : Int} (h : Lim k x) (h' : Lim j y) : Lim (k + j) (x * y) := by
  unfold Lim at *
  rw [Nat.pow_add, Int.natAbs_mul]
  exact Nat.mul_lt_mul'' h h'
theorem Lim.neg {k : Nat} {x : Int} (h : Lim k x) : Lim k (-x) := by unfold Lim at *; rwa [Int.natAbs_neg]
theorem Lim.abs {k : Nat} {x : Int} (h : Lim k x) : Lim k (x.natAbs : Int) := by unfold Lim at *; rwa [Int.natAbs_natCast]
theorem AInt.lim {w : World} {neg : Bool} {A : Option Addr} {n c : Nat} {z : Int} (h : AInt w neg A n c z) : Lim n z := by
  obtain ⟨ds, h1, h2, h3, h4, rfl⟩ := h
  unfold Lim
  rw [sgn_natAbs, ← h1.len]
  exact val_lt h2
theorem CInt.len {w : World} {neg : Bool} {A : Option Addr} {n c : Nat} {z : Int} (h : CInt w neg A n c z) {k : Nat} (hk : Lim k z) : n ≤ k := h.len_le hk
theorem fdiv_abs_pos (x : Int) {y : Int} (h0 : 0 < y) : (x.fdiv y).natAbs ≤ x.natAbs + 1 := by
  have h1 := Int.fmod_add_mul_fdiv x y
  have h2 : 0 ≤ x.fmod y ∧ x.fmod y < y := ⟨Int.fmod_nonneg_of_pos x h0, Int.fmod_lt_of_pos x h0⟩
  generalize x.fmod y = r at *
  generalize x.fdiv y = q at *
  by_cases hq : 0 ≤ q
  · have : 1 * q ≤ y * q := Int.mul_le_mul_of_nonneg_right (by omega) hq
    omega
  · have h3 : y * q + y = y * (q + 1) := by rw [Int.mul_add, Int.mul_one]
    have : y * (q + 1) ≤ 1 * (q + 1) := Int.mul_le_mul_of_nonpos_right (by omega) (by omega)
    omega
theorem fdiv_abs (x y : Int) : (x.fdiv y).natAbs ≤ x.natAbs + 1 := by
  by_cases hy : y = 0
  · subst hy; simp
  · rcases Int.lt_or_gt_of_ne hy with h0 | h0
    · have := fdiv_abs_pos (-x) (y := -y) (by omega)
      rw [Int.neg_fdiv_neg] at this
      omega
    · exact fdiv_abs_pos x h0
theorem fmod_neg_neg (x y : Int) : x.fmod y = -((-x).fmod (-y)) := by
  have h1 := Int.fmod_add_mul_fdiv x y
  have h2 := Int.fmod_add_mul_fdiv (-x) (-y)
  rw [Int.neg_fdiv_neg, Int.neg_mul] at h2
  omega
/-- a remainder has the sign of the divisor and a smaller absolute value -/
theorem fmod_sign (x : Int) {y : Int} (hy : y ≠ 0) : (0 < y → 0 ≤ x.fmod y ∧ x.fmod y < y) ∧ (y < 0 → y < x.fmod y ∧ x.fmod y ≤ 0) := by
  constructor
  · intro h0; exact ⟨Int.fmod_nonneg_of_pos x h0, Int.fmod_lt_of_pos x h0⟩
  · intro h0
    have h1 := Int.fmod_nonneg_of_pos (-x) (b := -y) (by omega)
    have h2 := Int.fmod_lt_of_pos (-x) (b := -y) (by omega)
    rw [fmod_neg_neg x y]
    omega
theorem Lim.fdiv {k : Nat} {x : Int} (h : Lim k x) (y : Int) : Lim (k + 1) (x.fdiv y) := by
  unfold Lim at *
  rw [Nat.pow_succ]
  have := fdiv_abs x y
  have h1 : 1 ≤ 4294967296 ^ k := Nat.one_le_pow _ _ (by omega)
  generalize 4294967296 ^ k = B at *
  omega
theorem fmod_abs {x y : Int} (hy : y ≠ 0) : (x.fmod y).natAbs < y.natAbs := by
  have := fmod_sign x hy
  rcases Int.lt_or_gt_of_ne hy with h0 | h0
  · have := this.2 h0; omega
  · have := this.1 h0; omega
theorem Lim.fmod {k : Nat} {x y : Int} (h : Lim k y) (hy : y ≠ 0) : Lim k (x.fmod y) := Nat.lt_trans (fmod_abs hy) h
end Go.Proofs.YtociocengfjioaaGreatDoor
