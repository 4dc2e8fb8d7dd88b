/- Lemmas for the laws of this seat (part WireRefEnc): each is proved for all values of its variables, under the premises that it states. -/
import Derived.Test.YthiihejbjfmbkaaWireEnc
namespace Go.Proofs.Ythiihejbjfmbkaa
open Go.RowKit

set_option maxRecDepth 100000 in
theorem uint0_in (n : Nat) (w : World) (hn : n ≤ 4611686018427387904) :
    Calls Try.prog 30 #[.int .i64 n] w (RetOwn .u8 5 w (encU n)) := by
  go_enter Try.func30, Try.ntmps30
  go_wp2
  go_loopw [0, 3] (fun m v wr => ∃ (k : Nat) (xs : List Nat), m = .int .i64 k ∧ k ≤ n ∧ Hid (xs ++ encU k = encU n) ∧ Own .u8 5 w wr v xs) (fun m _ _ => (intOf m).toNat)
  case atStart => exact ⟨n, [], rfl, Nat.le_refl _, rfl, Own.nil (Below.refl _ _)⟩
  case round =>
    obtain ⟨k, xs, rfl, hk, HE, hown⟩ := hrel
    have hl : xs.length < 9 := by
      have h9 := encU_len9 hn
      rw [← HE.out, List.length_append] at h9
      have := encU_pos k
      omega
    by_cases hlt : 127 < k
    · have ha := and127 k (by omega)
      have hu : IntKind.u8.wrap ((k % 128 : Nat) : Int) = ((k % 128 : Nat) : Int) := by rw [IntKind.wrap_u8]; omega
      have ho := or128' (k % 128) (by omega)
      go_wp2_with (at_builtin; go_must (refine wpList_append_lst Try.elemU8 Try.underlying23 (hown.alloc _) (Rd.one .u8 _ 5 (y := k % 128 + 128) ?_) rfl rfl rfl rfl (by omega) (by omega) ?_))
      case refine_1 => first | exact ho | (have ho' := ho; simp at ho'; simp [ho'])
      case refine_2 =>
        intro v' w' hown' _ _
        clear hown
        go_wp2
        go_roundw
        case rel => exact ⟨k / 128, _, by go_num, by omega, by rw [← HE.out, encU_ge (n := k) (by omega), List.append_assoc]; rfl, hown'⟩
        case measure => simp [intOf]; omega
    · go_wp2_with (at_builtin; go_must (refine wpList_append_lst Try.elemU8 Try.underlying23 (hown.alloc _) (Rd.one .u8 _ 5 (y := k) rfl) rfl rfl rfl rfl (by omega) (by omega) ?_; intro v' w' hown' _ _; clear hown))
      go_ret
      exact ⟨v', rfl, by rw [← HE.out, encU_lt (by omega)]; exact hown'⟩

theorem zigzag_any (n : Int) (w : World) (h1 : -2305843009213693952 ≤ n) (h2 : n ≤ 2305843009213693952) :
    Calls Try.prog 31 #[.int .i64 n] w fun e w' => e = .returned (.int .i64 (zig n : Nat)) ∧ w = w' := by
  by_cases h : 0 ≤ n
  · have hz : ((zig n : Nat) : Int) = 2 * n := by unfold zig; rw [if_pos h]; omega
    rw [hz]; clear hz
    go_enter Try.func31, Try.ntmps31
    go_wp2
    go_ret
    exact ⟨rfl, rfl⟩
  · have hz : ((zig n : Nat) : Int) = -2 * n - 1 := by unfold zig; rw [if_neg h]; omega
    rw [hz]; clear hz
    go_enter Try.func31, Try.ntmps31
    go_wp2
    go_ret
    exact ⟨rfl, rfl⟩

theorem zig_le (n : Int) (h1 : -2305843009213693952 ≤ n) (h2 : n ≤ 2305843009213693952) : zig n ≤ 4611686018427387904 := by
  unfold zig; split <;> omega

theorem refEncodeUint_any (n : Int) (w : World) : Calls Try.prog 15 #[.int .i64 n] w (RetOwnE .u8 5 w (encN n).1 (encN n).2) := by
  unfold encN
  by_cases h : 0 ≤ n ∧ n ≤ 4611686018427387904
  · rw [if_pos h]
    obtain ⟨m, rfl⟩ := Int.eq_ofNat_of_zero_le h.1
    have h1 : decide ((m : Int) < 0) = false := by simp
    have h2 : decide (4611686018427387904 < (m : Int)) = false := by simp; omega
    have hm : m ≤ 4611686018427387904 := by omega
    clear h
    go_enter Try.func15, Try.ntmps15
    go_wp2_with (go_at_call 30; go_must (refine (uint0_in m _ hm).mono ?_; rintro e w' ⟨v, rfl, hown⟩))
    go_ret2
    exact ⟨v, rfl, hown⟩
  · rw [if_neg h]
    by_cases h1 : n < 0
    · have h1' : decide (n < 0) = true := by simpa using h1
      go_enter Try.func15, Try.ntmps15
      go_wp2
      go_ret2
      exact ⟨_, rfl, Own.nil (Below.refl _ _)⟩
    · have h1' : decide (n < 0) = false := by simpa using h1
      have h2 : decide (4611686018427387904 < n) = true := by simp; omega
      clear h
      go_enter Try.func15, Try.ntmps15
      go_wp2
      go_ret2
      exact ⟨_, rfl, Own.nil (Below.refl _ _)⟩

theorem refEncodeInt_any (n : Int) (w : World) : Calls Try.prog 17 #[.int .i64 n] w (RetOwnE .u8 5 w (encI n).1 (encI n).2) := by
  unfold encI
  by_cases h : -2305843009213693952 ≤ n ∧ n ≤ 2305843009213693952
  · rw [if_pos h]
    obtain ⟨ha, hb⟩ := h
    have h1 : decide (n < -2305843009213693952) = false := by simp; omega
    have h2 : decide (2305843009213693952 < n) = false := by simp; omega
    have hz := zig_le n ha hb
    go_enter Try.func17, Try.ntmps17
    go_wp2_with (first | (go_at_call 31; go_must (refine (zigzag_any n _ ha hb).mono ?_; rintro e w' ⟨rfl, rfl⟩)) | (go_at_call 30; go_must (refine (uint0_in (zig n) _ hz).mono ?_; rintro e w' ⟨v, rfl, hown⟩)))
    go_ret2
    exact ⟨v, rfl, hown⟩
  · rw [if_neg h]
    by_cases h1 : n < -2305843009213693952
    · have h1' : decide (n < -2305843009213693952) = true := by simpa using h1
      go_enter Try.func17, Try.ntmps17
      go_wp2
      go_ret2
      exact ⟨_, rfl, Own.nil (Below.refl _ _)⟩
    · have h1' : decide (n < -2305843009213693952) = false := by simpa using h1
      have h2 : decide (2305843009213693952 < n) = true := by simp; omega
      clear h
      go_enter Try.func17, Try.ntmps17
      go_wp2
      go_ret2
      exact ⟨_, rfl, Own.nil (Below.refl _ _)⟩

theorem refEncodeText_any (s : ByteArray) (w : World) (hs : s.size ≤ 9223372036854775807) : Calls Try.prog 12 #[.string s] w (RetOwnE .u8 5 w (encT s).1 (encT s).2) := by
  unfold encT
  by_cases h : s.size ≤ 20000
  · rw [if_pos h]
    go_enter Try.func12, Try.ntmps12
    go_wp2_with (first | (go_at_call 30; go_must (refine (uint0_in s.size _ (by omega)).mono ?_; rintro e w' ⟨v, rfl, hown⟩)) | (at_builtin; refine wpList_append_str Try.elemU8 Try.underlying23 Try.underlying9 hown rfl rfl rfl rfl ?_ ?_))
    case refine_1 => have := encU_len9 (n := s.size) (by omega); omega
    case refine_2 =>
      intro v1 w1 hown1 _
      clear hown
      go_wp2
      go_ret2
      exact ⟨v1, rfl, hown1⟩
  · rw [if_neg h]
    go_enter Try.func12, Try.ntmps12
    go_wp2
    go_ret2
    exact ⟨_, rfl, Own.nil (Below.refl _ _)⟩
end Go.Proofs.Ythiihejbjfmbkaa
