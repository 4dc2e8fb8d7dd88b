/- Decoding inverts encoding: plain lemmas. -/
import Derived.Test.YthiihejbjfmbkaaWireDecPlain
namespace Go.Proofs.Ythiihejbjfmbkaa
theorem decGo_enc : ∀ (m f i n : Nat) (rest : List Nat), (encU m).length ≤ f → n + m * 2 ^ (7 * i) ≤ 4611686018427387904 → (m = 0 → i = 0) →
    decGo f (encU m ++ rest) i n = (n + m * 2 ^ (7 * i), i + (encU m).length, 0) := by
  intro m
  induction m using Nat.strongRecOn with
  | _ m ih =>
    intro f i n rest hf hb h0
    by_cases hm : m < 128
    · rw [encU_lt hm] at hf ⊢
      obtain ⟨g, rfl⟩ : ∃ g, f = g + 1 := ⟨f - 1, by simp at hf; omega⟩
      have e : m % 128 = m := Nat.mod_eq_of_lt hm
      rw [List.singleton_append, decGo_good g m i n rest hm (by rw [e]; rintro (⟨h1, h2⟩ | h); have := h0 h1; omega; omega), e]
      rfl
    · rw [encU_ge (by omega)] at hf ⊢
      obtain ⟨g, rfl⟩ : ∃ g, f = g + 1 := ⟨f - 1, by simp at hf; omega⟩
      have e : (m % 128 + 128) % 128 = m % 128 := by omega
      have hp : 2 ^ (7 * (i + 1)) = 128 * 2 ^ (7 * i) := by rw [show 7 * (i + 1) = 7 * i + 7 by omega, Nat.pow_add]; omega
      have hs : n + m % 128 * 2 ^ (7 * i) + m / 128 * 2 ^ (7 * (i + 1)) = n + m * 2 ^ (7 * i) := by
        rw [hp, ← Nat.mul_assoc, Nat.add_assoc, ← Nat.add_mul]
        congr 2
        omega
      rw [List.cons_append, decGo_more g _ i n _ (by omega), e, ih (m / 128) (by omega) g (i + 1) _ rest (by simpa using hf) (by rw [hs]; exact hb) (by omega), hs]
      refine Prod.ext rfl (Prod.ext ?_ rfl)
      show i + 1 + (encU (m / 128)).length = i + ((m % 128 + 128) :: encU (m / 128)).length
      simp only [List.length_cons]
      omega
theorem decGo_cut : ∀ (m f i n j : Nat), (encU m).length ≤ f → j < (encU m).length → decGo f ((encU m).take j) i n = (0, 0, 3) := by
  intro m
  induction m using Nat.strongRecOn with
  | _ m ih =>
    intro f i n j hf hj
    obtain ⟨g, rfl⟩ : ∃ g, f = g + 1 := ⟨f - 1, by have := encU_pos m; omega⟩
    by_cases hm : m < 128
    · rw [encU_lt hm] at hj ⊢
      obtain rfl : j = 0 := by simpa using hj
      rfl
    · rw [encU_ge (by omega)] at hf hj ⊢
      cases j with
      | zero => rfl
      | succ j =>
        rw [List.take_succ_cons, decGo_more g _ i n _ (by omega)]
        exact ih (m / 128) (by omega) g (i + 1) _ j (by simpa using hf) (by simpa using hj)
theorem decU_enc (m : Nat) (rest : List Nat) (h : m ≤ 4611686018427387904) : decU (encU m ++ rest) = (m, (encU m).length, 0) := by
  have := decGo_enc m 9 0 0 rest (encU_len9 h) (by simpa using h) (fun _ => rfl)
  simpa [decU] using this
theorem decU_cut (m j : Nat) (h : m ≤ 4611686018427387904) (hj : j < (encU m).length) : decU ((encU m).take j) = (0, 0, 3) := decGo_cut m 9 0 0 j (encU_len9 h) hj

theorem decT_enc (bs rest : List Nat) (h : bs.length ≤ 20000) : decT (encU bs.length ++ bs ++ rest) = (bs, (encU bs.length ++ bs).length, 0) := by
  unfold decT
  rw [List.append_assoc, decU_enc _ _ (by omega)]
  simp only [ne_eq, not_true_eq_false, if_false]
  rw [if_neg (by omega), if_neg (by simp only [List.length_append]; omega)]
  simp
theorem decT_cut (bs : List Nat) (j : Nat) (h : bs.length ≤ 20000) (hj : j < (encU bs.length ++ bs).length) : decT ((encU bs.length ++ bs).take j) = ([], 0, 3) := by
  unfold decT
  rw [List.take_append]
  by_cases hc : j < (encU bs.length).length
  · rw [show j - (encU bs.length).length = 0 by omega, List.take_zero, List.append_nil, decU_cut _ _ (by omega) hc]
    simp
  · rw [List.take_of_length_le (l := encU bs.length) (by omega), decU_enc _ _ (by omega)]
    simp only [ne_eq, not_true_eq_false, if_false]
    rw [if_neg (by omega), if_pos]
    simp only [List.length_append, List.length_take] at hj ⊢
    omega
theorem unzig_zig (n : Int) (h1 : -2305843009213693952 ≤ n) (h2 : n ≤ 2305843009213693952) : unzig (zig n) = n := by
  unfold unzig zig
  split
  · rename_i h
    rw [if_neg (by omega)]
    omega
  · rename_i h
    rw [if_pos (by omega)]
    omega
theorem zig_bd (n : Int) (h1 : -2305843009213693952 ≤ n) (h2 : n ≤ 2305843009213693952) : zig n ≤ 4611686018427387904 := by
  unfold zig; split <;> omega
theorem decI_enc (n : Int) (rest : List Nat) (h1 : -2305843009213693952 ≤ n) (h2 : n ≤ 2305843009213693952) : decI (encU (zig n) ++ rest) = (n, (encU (zig n)).length, 0) := by
  unfold decI
  rw [decU_enc _ _ (zig_bd n h1 h2)]
  simp [unzig_zig n h1 h2]
theorem decI_cut (n : Int) (j : Nat) (h1 : -2305843009213693952 ≤ n) (h2 : n ≤ 2305843009213693952) (hj : j < (encU (zig n)).length) : decI ((encU (zig n)).take j) = (0, 0, 3) := by
  unfold decI
  rw [decU_cut _ _ (zig_bd n h1 h2) hj]
  simp
end Go.Proofs.Ythiihejbjfmbkaa
