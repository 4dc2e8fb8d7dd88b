/- Plain lemmas on digits in base 2^32. -/
import Derived.Test.YtociocengfjioaaGreatDoorBase
namespace Go.Proofs.YtociocengfjioaaGreatDoor
/-- the number that digits denote, the least one first -/
def val : List Nat → Nat
  | [] => 0
  | d :: ds => d + 4294967296 * val ds
/-- the digits of a number, without a leading zero -/
def digits (n : Nat) : List Nat := if n = 0 then [] else (n % 4294967296) :: digits (n / 4294967296)
  termination_by n
  decreasing_by omega
def W32 (xs : List Nat) : Prop := ∀ x ∈ xs, x < 4294967296
theorem digits_zero : digits 0 = [] := by rw [digits, if_pos rfl]
theorem digits_pos {n : Nat} (h : n ≠ 0) : digits n = (n % 4294967296) :: digits (n / 4294967296) := by rw [digits, if_neg h]
theorem val_nil : val [] = 0 := rfl
theorem val_cons (d : Nat) (ds : List Nat) : val (d :: ds) = d + 4294967296 * val ds := rfl
theorem val_append (xs ys : List Nat) : val (xs ++ ys) = val xs + 4294967296 ^ xs.length * val ys := by
  induction xs with
  | nil => simp [val]
  | cons x xs ih =>
    rw [List.cons_append, val_cons, ih, val_cons, List.length_cons, Nat.pow_succ, Nat.mul_add, Nat.add_assoc, Nat.mul_comm (4294967296 ^ xs.length) 4294967296, Nat.mul_assoc]
theorem val_digits (n : Nat) : val (digits n) = n := by
  induction n using Nat.strongRecOn with
  | _ n ih =>
    by_cases h : n = 0
    · subst h; rw [digits_zero]; rfl
    · rw [digits_pos h, val_cons, ih (n / 4294967296) (by omega)]; omega
theorem digits_w32 (n : Nat) : W32 (digits n) := by
  induction n using Nat.strongRecOn with
  | _ n ih =>
    by_cases h : n = 0
    · subst h; rw [digits_zero]; intro x hx; simp at hx
    · rw [digits_pos h]
      intro x hx
      rcases List.mem_cons.1 hx with rfl | hx
      · omega
      · exact ih (n / 4294967296) (by omega) x hx
theorem W32.cons {d : Nat} {ds : List Nat} (h : W32 (d :: ds)) : d < 4294967296 ∧ W32 ds := ⟨h d List.mem_cons_self, fun x hx => h x (List.mem_cons_of_mem _ hx)⟩
theorem W32.mk {d : Nat} {ds : List Nat} (h : d < 4294967296) (hs : W32 ds) : W32 (d :: ds) := fun x hx => by
  rcases List.mem_cons.1 hx with rfl | hx
  · exact h
  · exact hs x hx
theorem W32.append {xs ys : List Nat} (h : W32 xs) (hs : W32 ys) : W32 (xs ++ ys) := fun x hx => (List.mem_append.1 hx).elim (h x) (hs x)
theorem W32.take {xs : List Nat} (n : Nat) (h : W32 xs) : W32 (xs.take n) := fun x hx => h x (List.mem_of_mem_take hx)
theorem W32.drop {xs : List Nat} (n : Nat) (h : W32 xs) : W32 (xs.drop n) := fun x hx => h x (List.mem_of_mem_drop hx)
theorem W32.set {xs : List Nat} {y : Nat} (n : Nat) (h : W32 xs) (hy : y < 4294967296) : W32 (xs.set n y) := fun x hx => by
  rcases List.mem_or_eq_of_mem_set hx with h1 | h1
  · exact h x h1
  · omega
theorem W32.getD {xs : List Nat} (h : W32 xs) (k : Nat) : xs.getD k 0 < 4294967296 := getD_lt xs k 4294967296 h (by omega)
theorem W32.nil : W32 [] := fun x hx => by simp at hx
theorem W32.rep (n : Nat) : W32 (List.replicate n 0) := fun x hx => by rw [(List.mem_replicate.1 hx).2]; omega
theorem val_lt : ∀ {xs : List Nat}, W32 xs → val xs < 4294967296 ^ xs.length
  | [], _ => by simp [val]
  | x :: xs, h => by
    have ih := val_lt h.cons.2
    have hx := h.cons.1
    rw [val_cons, List.length_cons, Nat.pow_succ]
    omega
theorem val_rep (n : Nat) : val (List.replicate n 0) = 0 := by
  induction n with
  | zero => rfl
  | succ n ih => rw [List.replicate_succ, val_cons, ih]
theorem digits_val_zero {xs : List Nat} (h : W32 xs) (hv : val xs = 0) : ∀ x ∈ xs, x = 0 := by
  induction xs with
  | nil => simp
  | cons x xs ih =>
    rw [val_cons] at hv
    intro y hy
    rcases List.mem_cons.1 hy with rfl | hy
    · omega
    · exact ih h.cons.2 (by omega) y hy
/-- two lists of digits of one length and one value are one -/
theorem val_inj : ∀ {xs ys : List Nat}, W32 xs → W32 ys → xs.length = ys.length → val xs = val ys → xs = ys
  | [], [], _, _, _, _ => rfl
  | [], _ :: _, _, _, h, _ => by simp at h
  | _ :: _, [], _, _, h, _ => by simp at h
  | x :: xs, y :: ys, hx, hy, hl, hv => by
    rw [val_cons, val_cons] at hv
    have h1 := hx.cons.1
    have h2 := hy.cons.1
    have e : x = y := by omega
    have e2 := val_inj hx.cons.2 hy.cons.2 (by simpa using hl) (by omega)
    rw [e, e2]
/-- the digits without the leading zeros -/
theorem digits_val (xs : List Nat) (h : W32 xs) (ht : xs = [] ∨ xs.getLast? ≠ some 0) : digits (val xs) = xs := by
  induction xs with
  | nil => exact digits_zero
  | cons x xs ih =>
    have hx := h.cons.1
    have hne : val (x :: xs) ≠ 0 := by
      intro h0
      have hz := digits_val_zero h h0
      rcases ht with ht | ht
      · cases ht
      · apply ht
        rw [List.getLast?_eq_getElem?]
        have hl : (x :: xs).length - 1 < (x :: xs).length := by simp
        rw [List.getElem?_eq_getElem hl]
        congr 1
        exact hz _ (List.getElem_mem hl)
    rw [digits_pos hne, val_cons]
    rw [show (x + 4294967296 * val xs) % 4294967296 = x by omega, show (x + 4294967296 * val xs) / 4294967296 = val xs by omega, ih h.cons.2]
    cases xs with
    | nil => exact .inl rfl
    | cons y ys =>
      right
      rcases ht with ht | ht
      · cases ht
      · simpa using ht
theorem digits_last (n : Nat) : digits n = [] ∨ (digits n).getLast? ≠ some 0 := by
  induction n using Nat.strongRecOn with
  | _ n ih =>
    by_cases h : n = 0
    · left; subst h; exact digits_zero
    · right
      rw [digits_pos h]
      by_cases h2 : n / 4294967296 = 0
      · rw [h2, digits_zero]
        simp
        omega
      · rcases ih (n / 4294967296) (by omega) with h3 | h3
        · rw [digits_pos h2] at h3; cases h3
        · cases e : digits (n / 4294967296) with
          | nil => rw [digits_pos h2] at e; cases e
          | cons y ys => rw [e] at h3; simpa using h3
/-- a list that ends in zeros -/
theorem val_take (xs : List Nat) (n : Nat) (hz : ∀ j, n ≤ j → xs.getD j 0 = 0) : val (xs.take n) = val xs := by
  induction xs generalizing n with
  | nil => simp
  | cons x xs ih =>
    cases n with
    | zero =>
      have h0 := hz 0 (by omega)
      rw [List.take_zero, val_cons]
      have h1 := ih 0 (fun j hj => by have := hz (j + 1) (by omega); simpa using this)
      rw [List.take_zero] at h1
      simp at h0
      rw [← h1, h0]; rfl
    | succ n =>
      rw [List.take_succ_cons, val_cons, val_cons, ih n (fun j hj => by have := hz (j + 1) (by omega); simpa using this)]
/-- what trim leaves -/
theorem trim_digits (xs : List Nat) (h : W32 xs) (n : Nat) (hn : n ≤ xs.length) (hz : ∀ j, n ≤ j → xs.getD j 0 = 0) (hl : n = 0 ∨ xs.getD (n - 1) 0 ≠ 0) : xs.take n = digits (val xs) := by
  rw [← val_take xs n hz, digits_val (xs.take n) (h.take n)]
  rcases hl with hl | hl
  · left; rw [hl, List.take_zero]
  · right
    by_cases hn0 : n = 0
    · subst hn0; simp
    · rw [List.getLast?_eq_getElem?, List.length_take, Nat.min_eq_left hn, List.getElem?_take, if_pos (by omega)]
      intro h0
      apply hl
      rw [List.getD_eq_getElem?_getD, h0]; rfl
theorem digits_len_le {n k : Nat} (h : n < 4294967296 ^ k) : (digits n).length ≤ k := by
  induction k generalizing n with
  | zero =>
    have : n = 0 := by simpa using h
    subst this; rw [digits_zero]; simp
  | succ k ih =>
    by_cases h0 : n = 0
    · subst h0; rw [digits_zero]; simp
    · rw [digits_pos h0, List.length_cons]
      have := ih (n := n / 4294967296) (by rw [Nat.pow_succ] at h; omega)
      omega
theorem digits_lt (n : Nat) : n < 4294967296 ^ (digits n).length := by
  have := val_lt (digits_w32 n)
  rwa [val_digits] at this
theorem digits_ge {n : Nat} (h : n ≠ 0) : 4294967296 ^ ((digits n).length - 1) ≤ n := by
  induction n using Nat.strongRecOn with
  | _ n ih =>
    rw [digits_pos h, List.length_cons, Nat.add_sub_cancel]
    by_cases h2 : n / 4294967296 = 0
    · rw [h2, digits_zero]; simp; omega
    · have := ih (n / 4294967296) (by omega) h2
      rw [digits_pos h2] at this ⊢
      rw [List.length_cons, Nat.add_sub_cancel] at this
      rw [List.length_cons, Nat.pow_succ]
      omega
theorem digits_len_mono {a b : Nat} (h : a ≤ b) : (digits a).length ≤ (digits b).length := digits_len_le (Nat.lt_of_le_of_lt h (digits_lt b))
theorem digits_nil_iff (n : Nat) : (digits n).length = 0 ↔ n = 0 := by
  constructor
  · intro h
    have := digits_lt n
    rw [h] at this
    simpa using this
  · rintro rfl; rw [digits_zero]; rfl
end Go.Proofs.YtociocengfjioaaGreatDoor
