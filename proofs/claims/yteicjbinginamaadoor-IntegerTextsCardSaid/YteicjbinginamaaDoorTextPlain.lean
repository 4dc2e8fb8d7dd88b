/- Plain law of decimal texts: the value of digits, what a parser answers. -/
import Derived.Test.YteicjbinginamaaDoorFmtPlain
import Derived.Test.YteicjbinginamaaDoorIntA
namespace Go.Proofs.YteicjbinginamaaDoor
open Go.RowKit

/-- the value of decimal digits -/
def nd (l : List Nat) : Nat := l.foldl (fun a c => a * 10 + (c - 48)) 0
theorem nd_nil : nd [] = 0 := rfl
theorem nd_snoc (l : List Nat) (c : Nat) : nd (l ++ [c]) = nd l * 10 + (c - 48) := by simp [nd, List.foldl_append]
theorem nd_from (l : List Nat) : ∀ a, l.foldl (fun a c => a * 10 + (c - 48)) a = a * 10 ^ l.length + nd l := by
  induction l with
  | nil => intro a; simp [nd]
  | cons c l ih =>
    intro a
    have e : nd (c :: l) = l.foldl (fun a c => a * 10 + (c - 48)) (0 * 10 + (c - 48)) := rfl
    rw [e, List.foldl_cons, List.length_cons, ih, ih (0 * 10 + (c - 48)), Nat.pow_succ]
    generalize 10 ^ l.length = P
    generalize c - 48 = d
    grind
theorem nd_append (xs ys : List Nat) : nd (xs ++ ys) = nd xs * 10 ^ ys.length + nd ys := by
  unfold nd
  rw [List.foldl_append]
  exact nd_from ys _
/-- decimal digits alone -/
def okD (l : List Nat) : Prop := ∀ c ∈ l, 48 ≤ c ∧ c ≤ 57
theorem okD.getD {l : List Nat} (h : okD l) {k : Nat} (hk : k < l.length) : 48 ≤ l.getD k 0 ∧ l.getD k 0 ≤ 57 := by
  rw [List.getD_eq_getElem?_getD, List.getElem?_eq_getElem hk]
  exact h _ (List.getElem_mem hk)
theorem okD.take {l : List Nat} (h : okD l) (k : Nat) : okD (l.take k) := fun c hc => h c (List.mem_of_mem_take hc)
theorem okD.drop {l : List Nat} (h : okD l) (k : Nat) : okD (l.drop k) := fun c hc => h c (List.mem_of_mem_drop hc)
theorem okD_of {l : List Nat} (h : ∀ k, k < l.length → 48 ≤ l.getD k 0 ∧ l.getD k 0 ≤ 57) : okD l := by
  intro c hc
  obtain ⟨k, hk, rfl⟩ := List.mem_iff_getElem.1 hc
  have := h k hk
  rwa [List.getD_eq_getElem?_getD, List.getElem?_eq_getElem hk] at this
theorem nd_lt : ∀ (n : Nat) (l : List Nat), l.length = n → okD l → nd l < 10 ^ n := by
  intro n
  induction n with
  | zero => intro l h _; obtain rfl := List.eq_nil_of_length_eq_zero h; decide
  | succ n ih =>
    intro l h hd
    have e : l = l.take n ++ [l.getD n 0] := by
      rw [← take_getD l n (by omega), List.take_of_length_le (by omega)]
    have h1 := ih (l.take n) (by rw [List.length_take]; omega) (hd.take n)
    have h2 := hd.getD (k := n) (by omega)
    rw [e, nd_snoc, Nat.pow_succ]
    omega
theorem nd_dec (n : Nat) : nd (dec n) = n := by
  induction n using Nat.strongRecOn with
  | ind n ih =>
    by_cases h : n < 10
    · rw [dec_small h]; simp [nd]
    · rw [dec_big (by omega), nd_snoc, ih (n / 10) (by omega)]; omega
theorem nd_take_succ (l : List Nat) (k : Nat) (h : k < l.length) : nd (l.take (k + 1)) = nd (l.take k) * 10 + (l.getD k 0 - 48) := by
  rw [take_getD l k h, nd_snoc]

/-- digits, one or more, of which the first is not 0 unless it is the only one -/
def Deci (l : List Nat) : Prop := l ≠ [] ∧ okD l ∧ ¬ (l.getD 0 0 = 48 ∧ 1 < l.length)
def GoodB (neg : Bool) (l : List Nat) : Prop := Deci l ∧ ¬ (neg = true ∧ l = [48])
def pNeg (l : List Nat) : Bool := l.getD 0 0 == 45
def pBody (l : List Nat) : List Nat := if pNeg l then l.drop 1 else l
/-- the answer of a parser: number and code -/
def PA (l : List Nat) (z code : Int) : Prop :=
  (400 < l.length ∧ code = 10 ∧ z = 0) ∨ (l.length ≤ 400 ∧ GoodB (pNeg l) (pBody l) ∧ code = 0 ∧ z = sgn (pNeg l) (nd (pBody l))) ∨ (l.length ≤ 400 ∧ ¬ GoodB (pNeg l) (pBody l) ∧ code = 1 ∧ z = 0)
theorem PA_ex (l : List Nat) : ∃ z code, PA l z code := by
  by_cases h : 400 < l.length
  · exact ⟨_, _, .inl ⟨h, rfl, rfl⟩⟩
  · by_cases g : GoodB (pNeg l) (pBody l)
    · exact ⟨_, _, .inr (.inl ⟨by omega, g, rfl, rfl⟩)⟩
    · exact ⟨_, _, .inr (.inr ⟨by omega, g, rfl, rfl⟩)⟩
theorem bad_nil {neg : Bool} {l : List Nat} (h : l.length = 0) : ¬ GoodB neg l := fun g => g.1.1 (List.eq_nil_of_length_eq_zero h)
theorem bad_zero {neg : Bool} {l : List Nat} (h : l.getD 0 0 = 48) (h1 : 1 < l.length ∨ neg = true) : ¬ GoodB neg l := by
  intro g
  rcases Nat.lt_trichotomy l.length 1 with h2 | h2 | h2
  · exact bad_nil (by omega) g
  · refine g.2 ⟨by rcases h1 with h1 | h1; omega; exact h1, ?_⟩
    match l, h2 with
    | [x], _ => simp at h; rw [h]
  · exact g.1.2.2 ⟨h, h2⟩
theorem bad_digit {neg : Bool} {l : List Nat} {k : Nat} (hk : k < l.length) (h : l.getD k 0 < 48 ∨ 57 < l.getD k 0) : ¬ GoodB neg l := by
  intro g
  have := g.1.2.1.getD hk
  omega
theorem good_of {neg : Bool} {l : List Nat} (h0 : 0 < l.length) (hd : okD l) (h : ¬ (l.getD 0 0 = 48 ∧ (1 < l.length ∨ neg = true))) : GoodB neg l := by
  refine ⟨⟨fun e => by rw [e] at h0; simp at h0, hd, fun g => h ⟨g.1, .inl g.2⟩⟩, ?_⟩
  rintro ⟨h1, rfl⟩
  exact h ⟨rfl, .inr h1⟩
theorem dec_head (n : Nat) (h : n ≠ 0) : (dec n).getD 0 0 ≠ 48 := by
  induction n using Nat.strongRecOn with
  | ind n ih =>
    by_cases h1 : n < 10
    · rw [dec_small h1]; simp; omega
    · have := ih (n / 10) (by omega) (by omega)
      rw [dec_big (by omega), List.getD_eq_getElem?_getD, List.getElem?_append_left (dec_pos (n / 10)), ← List.getD_eq_getElem?_getD]
      exact this
theorem dec_good (neg : Bool) (n : Nat) (h : n ≠ 0 ∨ neg = false) : GoodB neg (dec n) := by
  by_cases h0 : n = 0
  · subst h0
    obtain rfl : neg = false := by rcases h with h | h; exact absurd rfl h; exact h
    exact good_of (dec_pos 0) (dec_digit 0) (by rw [dec_small (by omega)]; simp)
  · exact good_of (dec_pos n) (dec_digit n) (fun g => dec_head n h0 g.1)
theorem dec_getD0 (n : Nat) : (dec n).getD 0 0 ≠ 45 := by
  have := (show okD (dec n) from dec_digit n).getD (k := 0) (dec_pos n)
  omega
theorem pNeg_decz (s : Bool) (n : Nat) : pNeg (decz s n) = (s && decide (n ≠ 0)) ∧ pBody (decz s n) = dec n := by
  have h0 := dec_getD0 n
  by_cases h : s = true ∧ n ≠ 0
  · have e : decz s n = 45 :: dec n := by unfold decz; rw [if_pos h]; rfl
    obtain ⟨h1, h2⟩ := h
    subst h1
    rw [e]
    simp [pNeg, pBody, h2]
  · have e : decz s n = dec n := by unfold decz; rw [if_neg h]; rfl
    have h3 : pNeg (dec n) = false := by unfold pNeg; simpa using h0
    rw [e]
    refine ⟨?_, by unfold pBody; rw [h3]; rfl⟩
    rw [h3]
    cases s
    · simp
    · have : n = 0 := by
        by_cases hn : n = 0
        · exact hn
        · exact absurd ⟨rfl, hn⟩ h
      simp [this]
theorem PA_decz (s : Bool) (n : Nat) (h : (decz s n).length ≤ 400) : PA (decz s n) (sgn s n) 0 := by
  obtain ⟨h1, h2⟩ := pNeg_decz s n
  refine .inr (.inl ⟨h, ?_, rfl, ?_⟩)
  · rw [h1, h2]
    refine dec_good _ n ?_
    by_cases hn : n = 0
    · right; simp [hn]
    · exact .inl hn
  · rw [h1, h2, nd_dec]
    by_cases hn : n = 0
    · subst hn; cases s <;> simp [sgn]
    · simp [hn]
theorem PA_decz_long (s : Bool) (n : Nat) (h : 400 < (decz s n).length) : PA (decz s n) 0 10 := .inl ⟨h, rfl, rfl⟩
end Go.Proofs.YteicjbinginamaaDoor
