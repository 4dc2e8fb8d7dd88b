/- Walks of Light and awake. -/
import Derived.Test.YtpampkliahopdaaSame
import Derived.Test.YtpampkliahopdaaFormat
import Derived.Test.YtpampkliahopdaaDivMod
namespace Go.Proofs.Ytpampkliahopdaa
open Go.RowKit
set_option linter.unusedVariables false

theorem sum_take (ns : List Nat) (k : Nat) (h : k < ns.length) : (ns.take (k + 1)).sum = (ns.take k).sum + ns.getD k 0 := by
  rw [take_getD ns k h]; simp
theorem sum_take_le (ns : List Nat) (k : Nat) : (ns.take k).sum ≤ ns.sum := by
  conv => rhs; rw [← List.take_append_drop k ns, List.sum_append]
  omega

set_option maxHeartbeats 1000000 in
set_option maxRecDepth 100000 in
theorem light_any (g : Nat) (ns : List Nat) (N : Nat) (hN : ns.length = N) (w : World) (hc : ∀ i, i < ns.length → ∃ A c, w.cell? ⟨g, i * 2 + 1, none⟩ = some (.slice A (ns.getD i 0) c)) (hs : ns.sum ≤ 4611686018427387904) (hl : N ≤ 1000) :
    Calls Try.prog 49 #[.slice (some ⟨g, 0, none⟩) N N] w (RetV w (.bool (decide (ns.sum ≤ 60)))) := by
  have HC := Lib.hid hc
  have HN := Lib.hid hN
  clear hc hN
  go_enter Try.func49, Try.ntmps49
  go_wp2_with fail
  go_loop [3, 4] (fun nv i => ∃ k : Nat, k ≤ N ∧ i = .int .i64 (k : Int) ∧ nv = .int .i64 ((ns.take k).sum : Nat)) (fun _ i => N - (intOf i).toNat)
  case atStart => exact ⟨0, by omega, rfl, rfl⟩
  case round =>
    obtain ⟨k, hk, rfl, rfl⟩ := hrel
    have hle := sum_take_le ns k
    by_cases h0 : k < N
    · obtain ⟨A, c, hcell⟩ := HC.out k (by rw [HN.out]; exact h0)
      have HS := Lib.hid (sum_take ns k (by rw [HN.out]; exact h0))
      have hle2 := sum_take_le ns (k + 1)
      rw [HS.out] at hle2
      generalize ns.getD k 0 = x at *
      obtain ⟨z, hz⟩ : ∃ z, z = (ns.take (k + 1)).sum := ⟨_, rfl⟩
      have HZ := Lib.hid hz
      rw [← hz] at HS
      clear hz
      generalize (ns.take k).sum = y at *
      generalize ns.sum = S at *
      have i1 : (0 : Int) ≤ (k : Int) := by omega
      have i2 : (k : Int) < (N : Int) := by omega
      go_wp2
      go_round
      case rel => exact ⟨k + 1, by omega, by go_num, by rw [← HZ.out, HS.out]; go_num⟩
      case measure => simp [intOf] <;> omega
    · obtain rfl : k = N := by omega
      have HE : Hid ((ns.take k).sum = ns.sum) := by unfold Hid; rw [List.take_of_length_le (by rw [HN.out]; omega)]
      rw [HE.out]
      clear HE
      generalize ns.sum = S at *
      go_wp2
      go_ret
      exact ⟨by simp <;> omega, Below.refl _ _⟩

theorem CInt.len_le {w : World} {neg : Bool} {A : Option Addr} {n c : Nat} {z : Int} (h : CInt w neg A n c z) {k : Nat} (hk : z.natAbs < 4294967296 ^ k) : n ≤ k := by
  rw [← h.1.len]; exact digits_len_le hk
theorem str_m4 : strOf (decz true (Int.natAbs (-4))) = ⟨#[45, 52]⟩ := by rw [decz, if_pos (by decide), show Int.natAbs (-4) = 4 from rfl, dec_small (by omega)]; rfl
theorem str_1 : strOf (decz false (Int.natAbs 1)) = ⟨#[49]⟩ := by rw [decz, if_neg (by decide), show Int.natAbs 1 = 1 from rfl, dec_small (by omega)]; rfl

end Go.Proofs.Ytpampkliahopdaa
