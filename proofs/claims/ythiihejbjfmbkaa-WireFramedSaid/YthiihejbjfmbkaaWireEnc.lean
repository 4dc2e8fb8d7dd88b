/- Lemmas for the laws of this seat (part WireEnc): each is proved for all values of its variables, under the premises that it states. -/
import Derived.Test.YthiihejbjfmbkaaProg
import Derived.Test.YthiihejbjfmbkaaWirePlain
namespace Go.Proofs.Ythiihejbjfmbkaa
open Go.RowKit

theorem Try.elemU8 : IsElem Try.prog .u8 5 1 := by unfold IsElem; kernel_rfl

set_option maxRecDepth 100000 in
theorem encodeUint_in (n : Nat) (w : World) (hn : n ≤ 4611686018427387904) :
    Calls Try.prog 14 #[.int .i64 n] w (RetOwnE .u8 5 w (encU n) 0) := by
  have h1 : decide ((n : Int) < 0) = false := by simp
  have h2 : decide (4611686018427387904 < (n : Int)) = false := by simp; omega
  go_enter Try.func14, Try.ntmps14
  go_wp2
  go_loopw [0, 4] (fun m v wr => ∃ (k : Nat) (xs : List Nat), m = .int .i64 k ∧ k ≤ n ∧ Hid (xs ++ encU k = encU n) ∧ Own .u8 5 w wr v xs) (fun m _ _ => (intOf m).toNat)
  case atStart => exact ⟨n, [], rfl, Nat.le_refl _, rfl, Own.nil (Below.refl _ _)⟩
  case round =>
    obtain ⟨k, xs, rfl, hk, HE, hown⟩ := hrel
    have hl : xs.length < 9 := by
      have h9 := encU_len9 hn
      rw [← HE.out, List.length_append] at h9
      have := encU_pos k
      omega
    by_cases hlt : 128 ≤ k
    · go_wp2_with (at_builtin; go_must (refine wpList_append_lst Try.elemU8 Try.underlying23 (hown.alloc _) (Rd.one .u8 _ 5 (y := k % 128 + 128) (or128 k)) rfl rfl rfl rfl (by omega) (by omega) ?_; intro v' w' hown' _ _; clear hown))
      go_roundw
      case rel => exact ⟨k / 128, _, by go_num, by omega, by rw [← HE.out, encU_ge hlt, List.append_assoc]; rfl, hown'⟩
      case measure => simp [intOf]; omega
    · go_wp2_with (at_builtin; go_must (refine wpList_append_lst Try.elemU8 Try.underlying23 (hown.alloc _) (Rd.one .u8 _ 5 (y := k) rfl) rfl rfl rfl rfl (by omega) (by omega) ?_; intro v' w' hown' _ _; clear hown))
      go_ret2
      exact ⟨v', rfl, by rw [← HE.out, encU_lt (by omega)]; exact hown'⟩

theorem encodeUint_out (n : Int) (w : World) (hn : n < 0 ∨ 4611686018427387904 < n) :
    Calls Try.prog 14 #[.int .i64 n] w (RetOwnE .u8 5 w [] 5) := by
  rcases hn with hn | hn
  · have h1 : decide ((n : Int) < 0) = true := by simpa using hn
    go_enter Try.func14, Try.ntmps14
    go_wp2
    go_ret2
    exact ⟨_, rfl, Own.nil (Below.refl _ _)⟩
  · have h1 : decide ((n : Int) < 0) = false := by simp; omega
    have h2 : decide (4611686018427387904 < n) = true := by simpa using hn
    go_enter Try.func14, Try.ntmps14
    go_wp2
    go_ret2
    exact ⟨_, rfl, Own.nil (Below.refl _ _)⟩

/-- EncodeUint, whatever the number. -/
theorem encodeUint_any (n : Int) (w : World) : Calls Try.prog 14 #[.int .i64 n] w (RetOwnE .u8 5 w (encN n).1 (encN n).2) := by
  unfold encN
  by_cases h : 0 ≤ n ∧ n ≤ 4611686018427387904
  · rw [if_pos h]
    obtain ⟨m, rfl⟩ := Int.eq_ofNat_of_zero_le h.1
    exact encodeUint_in m w (by omega)
  · rw [if_neg h]
    exact encodeUint_out n w (by omega)

set_option maxRecDepth 100000 in
/-- EncodeInt, whatever the number. -/
theorem encodeInt_any (n : Int) (w : World) : Calls Try.prog 16 #[.int .i64 n] w (RetOwnE .u8 5 w (encI n).1 (encI n).2) := by
  unfold encI
  by_cases h : -2305843009213693952 ≤ n ∧ n ≤ 2305843009213693952
  · rw [if_pos h]
    obtain ⟨ha, hb⟩ := h
    have h1 : decide (n < -2305843009213693952) = false := by simp; omega
    have h2 : decide (2305843009213693952 < n) = false := by simp; omega
    by_cases hs : 0 ≤ n
    · obtain ⟨m, rfl⟩ := Int.eq_ofNat_of_zero_le hs
      have hz : zig (m : Int) = 2 * m := by unfold zig; rw [if_pos hs]; omega
      rw [hz]; clear hz
      go_enter Try.func16, Try.ntmps16
      go_wp2_with (go_at_call 14; go_must (refine (encodeUint_in (2 * m) _ (by omega)).mono ?_; rintro e w' ⟨v, rfl, hown⟩))
      go_ret2
      exact ⟨v, rfl, hown⟩
    · obtain ⟨m, hm⟩ : ∃ m : Nat, (-2 * n - 1) = m := ⟨(-2 * n - 1).toNat, by omega⟩
      have hz : zig n = m := by unfold zig; rw [if_neg hs]; omega
      rw [hz]; clear hz
      go_enter Try.func16, Try.ntmps16
      go_wp2_with (go_at_call 14; go_must (refine (encodeUint_in m _ (by omega)).mono ?_; rintro e w' ⟨v, rfl, hown⟩))
      go_ret2
      exact ⟨v, rfl, hown⟩
  · rw [if_neg h]
    by_cases h1 : n < -2305843009213693952
    · have h1' : decide (n < -2305843009213693952) = true := by simpa using h1
      go_enter Try.func16, Try.ntmps16
      go_wp2
      go_ret2
      exact ⟨_, rfl, Own.nil (Below.refl _ _)⟩
    · have h1' : decide (n < -2305843009213693952) = false := by simpa using h1
      have h2 : decide (2305843009213693952 < n) = true := by simp; omega
      clear h
      go_enter Try.func16, Try.ntmps16
      go_wp2
      go_ret2
      exact ⟨_, rfl, Own.nil (Below.refl _ _)⟩

/-- EncodeText, whatever the string. -/
theorem encodeText_any (s : ByteArray) (w : World) (hs : s.size ≤ 9223372036854775807) : Calls Try.prog 11 #[.string s] w (RetOwnE .u8 5 w (encT s).1 (encT s).2) := by
  unfold encT
  by_cases h : s.size ≤ 20000
  · rw [if_pos h]
    go_enter Try.func11, Try.ntmps11
    go_wp2_with (first | (go_at_call 14; go_must (refine (encodeUint_in s.size _ (by omega)).mono ?_; rintro e w' ⟨v, rfl, hown⟩)) | (at_builtin; refine wpList_append_str Try.elemU8 Try.underlying23 Try.underlying9 hown rfl rfl rfl rfl ?_ ?_))
    case refine_1 => have := encU_len9 (n := s.size) (by omega); omega
    case refine_2 =>
      intro v1 w1 hown1 _
      clear hown
      go_wp2
      go_ret2
      exact ⟨v1, rfl, hown1⟩
  · rw [if_neg h]
    go_enter Try.func11, Try.ntmps11
    go_wp2
    go_ret2
    exact ⟨_, rfl, Own.nil (Below.refl _ _)⟩
end Go.Proofs.Ythiihejbjfmbkaa
