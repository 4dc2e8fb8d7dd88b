/- Plain lemmas for Format. -/
import Derived.Test.YtociocengfjioaaGreatDoorDec
import Derived.Test.YtociocengfjioaaGreatDoorIntPlain
namespace Go.Proofs.YtociocengfjioaaGreatDoor
/-- the digits of a number in base 10^9, the least one first -/
def parts9 (n : Nat) : List Nat := if n = 0 then [] else (n % 1000000000) :: parts9 (n / 1000000000)
  termination_by n
  decreasing_by omega
theorem parts9_zero : parts9 0 = [] := by rw [parts9, if_pos rfl]
theorem parts9_pos {n : Nat} (h : n ≠ 0) : parts9 n = (n % 1000000000) :: parts9 (n / 1000000000) := by rw [parts9, if_neg h]
theorem parts9_lt (n : Nat) : ∀ x ∈ parts9 n, x < 1000000000 := by
  induction n using Nat.strongRecOn with
  | _ n ih =>
    by_cases h : n = 0
    · subst h; rw [parts9_zero]; simp
    · rw [parts9_pos h]
      intro x hx
      rcases List.mem_cons.1 hx with rfl | hx
      · omega
      · exact ih (n / 1000000000) (by omega) x hx
theorem parts9_len {n k : Nat} (h : n < 1000000000 ^ k) : (parts9 n).length ≤ k := by
  induction k generalizing n with
  | zero =>
    have : n = 0 := by simpa using h
    subst this; rw [parts9_zero]; simp
  | succ k ih =>
    by_cases h0 : n = 0
    · subst h0; rw [parts9_zero]; simp
    · rw [parts9_pos h0, List.length_cons]
      have := ih (n := n / 1000000000) (by rw [Nat.pow_succ] at h; omega)
      omega
theorem pow_9 (n : Nat) : 4294967296 ^ n ≤ 1000000000 ^ (2 * n) := by
  rw [Nat.pow_mul]
  exact Nat.pow_le_pow_left (by decide) n
theorem parts9_digits (n : Nat) : (parts9 n).length ≤ 2 * (digits n).length := parts9_len (Nat.lt_of_lt_of_le (digits_lt n) (pow_9 _))
/-- the text of such digits -/
def txt : List Nat → List Nat
  | [] => []
  | p :: ps => match ps with
    | [] => dec p
    | _ :: _ => txt ps ++ pad 9 p
theorem txt_one (p : Nat) : txt [p] = dec p := by rw [txt]
theorem txt_more (p : Nat) (ps : List Nat) (h : ps ≠ []) : txt (p :: ps) = txt ps ++ pad 9 p := by
  cases ps with
  | nil => exact absurd rfl h
  | cons q qs => rw [txt]
theorem txt_parts9 (n : Nat) (h0 : n ≠ 0) : txt (parts9 n) = dec n := by
  induction n using Nat.strongRecOn with
  | _ n ih =>
    rw [parts9_pos h0]
    by_cases h : n / 1000000000 = 0
    · rw [h, parts9_zero, txt_one, Nat.mod_eq_of_lt (by omega)]
    · rw [txt_more _ _ (by rw [parts9_pos h]; simp), ih _ (by omega) h, dec_pad 9 n (by omega)]
theorem txt_len (ps : List Nat) (h : ∀ x ∈ ps, x < 1000000000) : (txt ps).length ≤ 9 * ps.length := by
  induction ps with
  | nil => simp [txt]
  | cons p ps ih =>
    cases ps with
    | nil => rw [txt_one]; have := dec_len_le (n := p) (k := 8) (h p (by simp)); simp; omega
    | cons q qs =>
      rw [txt_more _ _ (by simp), List.length_append, pad_len]
      have := ih (fun x hx => h x (by simp [hx]))
      simp at this ⊢
      omega
/-- one step of the loop that writes the text -/
theorem txt_step (ps : List Nat) (j : Nat) (hj : j < ps.length) (hp : ps.getD j 0 < 1000000000) :
    txt (ps.drop j) = txt (ps.drop (j + 1)) ++ (List.replicate (if j + 1 < ps.length then 9 - (dec (ps.getD j 0)).length else 0) 48 ++ dec (ps.getD j 0)) := by
  rw [drop_getD ps j hj]
  by_cases h : j + 1 < ps.length
  · rw [if_pos h, txt_more _ _ (fun e => by have := congrArg List.length e; simp at this; omega), pad_dec 8 _ hp]
  · rw [if_neg h, List.drop_of_length_le (by omega), txt_one]
    simp [txt]
/-- the text of a signed number -/
def decz (neg : Bool) (n : Nat) : List Nat := (if neg = true ∧ n ≠ 0 then [45] else []) ++ dec n
theorem decz_zero (neg : Bool) : decz neg 0 = [48] := by unfold decz; rw [if_neg (by simp), dec_small (by omega)]; rfl
end Go.Proofs.YtociocengfjioaaGreatDoor
