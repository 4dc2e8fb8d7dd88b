/- The plain mathematics of a step of the schoolbook division. -/
import Derived.Test.YtflajoflpkboiaaGreatIntPlain2
namespace Go.Proofs.YtflajoflpkboiaaGreat
set_option linter.unusedVariables false
/-- what is known of the divisor and of the dividend's window; Bb is the base -/
structure Kn (P vl ul v2 v1 u2 u1 u0 V U : Nat) : Prop where
 hvl : vl < P
 hul : ul < P
 hv2 : v2 < 4294967296
 hv1 : v1 < 4294967296
 hnrm : 2147483648 ≤ v1
 hu2 : u2 < 4294967296
 hu1 : u1 < 4294967296
 hV : V = vl + P * (v2 + 4294967296 * v1)
 hU : U = ul + P * (u2 + 4294967296 * (u1 + 4294967296 * u0))
 hlt : U < V * 4294967296
section
variable {P vl ul v2 v1 u2 u1 u0 V U : Nat}
theorem Kn.vpos (h : Kn P vl ul v2 v1 u2 u1 u0 V U) : 0 < V := by
 have := h.hlt
 rcases Nat.eq_zero_or_pos V with e | e
 ·rw [e] at this; omega
 ·exact e
theorem Kn.qlt (h : Kn P vl ul v2 v1 u2 u1 u0 V U) : U / V < 4294967296 := Nat.div_lt_of_lt_mul (by have := h.hlt; omega)
theorem Kn.top (h : Kn P vl ul v2 v1 u2 u1 u0 V U) : u0 ≤ v1 := by
 have hlt := h.hlt
 have hv2 := h.hv2
 have h1 : P * (u2 + 4294967296 * (u1 + 4294967296 * u0)) ≤ U := by rw [h.hU]; omega
 have h2 : V < P * (v2 + 4294967296 * v1 + 1) := by rw [h.hV, Nat.mul_succ]; have := h.hvl; omega
 have h3 : P * (u2 + 4294967296 * (u1 + 4294967296 * u0)) < P * ((v2 + 4294967296 * v1 + 1) * 4294967296) := by
  rw [← Nat.mul_assoc]
  have : V * 4294967296 < P * (v2 + 4294967296 * v1 + 1) * 4294967296 := Nat.mul_lt_mul_of_pos_right h2 (by omega)
  omega
 have h4 := Nat.lt_of_mul_lt_mul_left h3
 omega
theorem Kn.qX (h : Kn P vl ul v2 v1 u2 u1 u0 V U) : U / V * (v2 + 4294967296 * v1) ≤ u2 + 4294967296 * (u1 + 4294967296 * u0) := by
 have hq : U / V * V ≤ U := Nat.div_mul_le_self _ _
 generalize U / V = q at *
 have h1 : P * (q * (v2 + 4294967296 * v1)) ≤ q * V := by
  rw [h.hV]
  generalize v2 + 4294967296 * v1 = X
  rw [Nat.mul_add q vl, ← Nat.mul_assoc q P, Nat.mul_comm q P, Nat.mul_assoc]; omega
 have h2 : U < P * (u2 + 4294967296 * (u1 + 4294967296 * u0) + 1) := by rw [h.hU, Nat.mul_succ]; have := h.hul; omega
 have h3 : P * (q * (v2 + 4294967296 * v1)) < P * (u2 + 4294967296 * (u1 + 4294967296 * u0) + 1) := by omega
 have h4 := Nat.lt_of_mul_lt_mul_left h3
 omega
theorem Kn.first (h : Kn P vl ul v2 v1 u2 u1 u0 V U) : U / V ≤ (u1 + 4294967296 * u0) / v1 := by
 have h1 := h.qX
 have hu2 := h.hu2
 have hv1 := h.hnrm
 generalize U / V = q at *
 generalize u1 + 4294967296 * u0 = top at *
 rw [Nat.le_div_iff_mul_le (by omega)]
 rw [Nat.mul_add] at h1
 have e : q * (4294967296 * v1) = 4294967296 * (q * v1) := by rw [← Nat.mul_assoc, Nat.mul_comm q, Nat.mul_assoc]
 rw [e] at h1
 generalize q * v1 = z at *
 generalize q * v2 = z2 at *
 omega
theorem Kn.more (h : Kn P vl ul v2 v1 u2 u1 u0 V U) {guess rest : Nat} (hg : U / V ≤ guess) (he : guess * v1 + rest = u1 + 4294967296 * u0) (hc : 4294967296 ≤ guess ∨ u2 + 4294967296 * rest < guess * v2) : U / V ≤ guess - 1 ∧ 1 ≤ guess := by
 have hq := h.qlt
 have h1 := h.qX
 generalize U / V = q at *
 rcases hc with hc | hc
 ·omega
 ·rcases Nat.lt_or_ge q guess with h2 | h2
  ·omega
  ·exfalso
   have e : q = guess := by omega
   rw [e, ← he, Nat.mul_add] at h1
   have e2 : guess * (4294967296 * v1) = 4294967296 * (guess * v1) := by rw [← Nat.mul_assoc, Nat.mul_comm guess, Nat.mul_assoc]
   rw [e2] at h1
   generalize guess * v1 = z at *
   generalize guess * v2 = z2 at *
   omega
theorem Kn.near (h : Kn P vl ul v2 v1 u2 u1 u0 V U) {guess rest : Nat} (he : guess * v1 + rest = u1 + 4294967296 * u0) (hb : guess < 4294967296) (hc : guess * v2 ≤ u2 + 4294967296 * rest) : guess ≤ U / V + 1 := by
 rcases Nat.eq_zero_or_pos guess with h0 | h0
 ·rw [h0]; exact Nat.zero_le _
 ·obtain ⟨g, rfl⟩ : ∃ g, guess = g + 1 := ⟨guess - 1, by omega⟩
  have hn := h.hnrm
  have hX : (g + 1) * (v2 + 4294967296 * v1) ≤ u2 + 4294967296 * (u1 + 4294967296 * u0) := by
   rw [← he, Nat.mul_add]
   have e2 : (g + 1) * (4294967296 * v1) = 4294967296 * ((g + 1) * v1) := by rw [← Nat.mul_assoc, Nat.mul_comm (g + 1), Nat.mul_assoc]
   rw [e2]
   generalize (g + 1) * v1 = z at *
   generalize (g + 1) * v2 = z2 at *
   omega
  have hXg : g ≤ v2 + 4294967296 * v1 := by omega
  have h1 : g * (v2 + 4294967296 * v1 + 1) ≤ u2 + 4294967296 * (u1 + 4294967296 * u0) := by
   rw [Nat.mul_succ]
   rw [Nat.succ_mul] at hX
   omega
  have h2 : g * V ≤ U := by
   have h3 : V ≤ P * (v2 + 4294967296 * v1 + 1) := by rw [h.hV, Nat.mul_succ]; have := h.hvl; omega
   have h4 : g * V ≤ g * (P * (v2 + 4294967296 * v1 + 1)) := Nat.mul_le_mul_left _ h3
   have h5 : g * (P * (v2 + 4294967296 * v1 + 1)) = P * (g * (v2 + 4294967296 * v1 + 1)) := by rw [← Nat.mul_assoc, Nat.mul_comm g, Nat.mul_assoc]
   have h6 : P * (g * (v2 + 4294967296 * v1 + 1)) ≤ P * (u2 + 4294967296 * (u1 + 4294967296 * u0)) := Nat.mul_le_mul_left _ h1
   have h7 := h.hU
   omega
  exact Nat.succ_le_succ ((Nat.le_div_iff_mul_le h.vpos).2 h2)
theorem Kn.brk (h : Kn P vl ul v2 v1 u2 u1 u0 V U) {guess rest : Nat} (he : guess * v1 + rest = u1 + 4294967296 * u0) (hr : 4294967296 ≤ rest) : guess < 4294967296 ∧ guess * v2 ≤ u2 + 4294967296 * rest := by
 have ht := h.top
 have hu1 := h.hu1
 have hg : guess < 4294967296 := by
  rcases Nat.lt_or_ge guess 4294967296 with h1 | h1
  ·exact h1
  ·exfalso
   have : 4294967296 * v1 ≤ guess * v1 := Nat.mul_le_mul_right _ h1
   omega
 refine ⟨hg, ?_⟩
 have := Nat.mul_le_mul (show guess ≤ 4294967295 by omega) (show v2 ≤ 4294967295 by have := h.hv2; omega)
 omega
end
/-- one digit of the row that is taken away -/
theorem muls_step {P a ds g vt br cr u d c : Nat} (h : a + P * (br + cr) = ds + g * vt) (hc : c = cr + g * d) (hu : u < 4294967296) (hbr : br ≤ 1) :
  a + P * u + P * 4294967296 * ((if u < br + c % 4294967296 then 1 else 0) + c / 4294967296) = ds + P * ((u + 4294967296 - br - c % 4294967296) % 4294967296) + g * (vt + P * d) := by
 have hs := sub_step (P := P) (v := 0) (br := br) (a := 0) (b := P * br) (x := u) (y := c % 4294967296) (by omega) hu (by omega) hbr
 have e : P * (c % 4294967296) + P * 4294967296 * (c / 4294967296) = P * c := by rw [Nat.mul_assoc, ← Nat.mul_add, Nat.mod_add_div]
 have e2 : g * (vt + P * d) = g * vt + P * (g * d) := by rw [Nat.mul_add, ← Nat.mul_assoc, Nat.mul_comm g P, Nat.mul_assoc]
 have e3 : P * c = P * cr + P * (g * d) := by rw [hc, Nat.mul_add]
 rw [Nat.mul_add (P * 4294967296), e2]
 rw [Nat.mul_add P br cr] at h
 generalize P * ((u + 4294967296 - br - c % 4294967296) % 4294967296) = D at *
 generalize P * 4294967296 * (if u < br + c % 4294967296 then 1 else 0) = E at *
 generalize P * 4294967296 * (c / 4294967296) = F at *
 generalize P * (c % 4294967296) = G at *
 generalize P * (g * d) = Hh at *
 omega

theorem muls_facts {gs d cr : Nat} (hg : gs < 4294967296) (hd : d < 4294967296) (hcr : cr < 4294967296) : ∃ p c lo : Nat, IntKind.u64.wrap ((gs : Int) * (d : Int)) = (p : Int) ∧ IntKind.u64.wrap ((cr : Int) + (p : Int)) = (c : Int) ∧ bits .and .u64 (c : Int) 4294967295 = (lo : Int) ∧ c = cr + gs * d ∧ lo = c % 4294967296 ∧ c / 4294967296 < 4294967296 := by
 have hb := mul_bound hg hd
 have e : ((gs * d : Nat) : Int) = (gs : Int) * (d : Int) := by simp
 refine ⟨gs * d, cr + gs * d, (cr + gs * d) % 4294967296, ?_, ?_, ?_, rfl, rfl, by omega⟩
 ·rw [← e, IntKind.wrap_u64]; omega
 ·rw [IntKind.wrap_u64]; omega
 ·have := u64_and_nat (cr + gs * d) 4294967295 (by omega) (by omega)
  have e2 : (cr + gs * d) &&& 4294967295 = (cr + gs * d) % 4294967296 := Nat.and_two_pow_sub_one_eq_mod _ 32
  rw [e2] at this
  exact this
/-- the end of the subtraction -/
theorem divstep_end {U V q gs L Pn un br cr : Nat} (hV : V < Pn) (hq : q = U / V) (hV0 : 0 < V) (h1 : q ≤ gs) (h2 : gs ≤ q + 1) (hL : L < Pn) (he : U + Pn * (br + cr) = L + gs * V + Pn * un) :
  (br + cr ≤ un → gs = q ∧ L = U % V ∧ un = br + cr) ∧ (un < br + cr → gs = q + 1 ∧ br + cr = un + 1 ∧ L + V = U % V + Pn) := by
 have hdm := Nat.div_add_mod U V
 have hm := Nat.mod_lt U hV0
 rw [← hq] at hdm
 have hqV : V * q = q * V := Nat.mul_comm _ _
 constructor
 ·intro h
  obtain ⟨z, rfl⟩ : ∃ z, un = br + cr + z := ⟨un - (br + cr), by omega⟩
  rw [Nat.mul_add Pn (br + cr) z] at he
  have hU : U = L + gs * V + Pn * z := by omega
  have hg : gs = q := by
   rcases Nat.lt_or_ge q gs with hlt | hge
   ·exfalso
    obtain rfl : gs = q + 1 := by omega
    rw [Nat.succ_mul] at hU
    omega
   ·omega
  subst hg
  have hz : z = 0 := by
   rcases Nat.eq_zero_or_pos z with h0 | h0
   ·exact h0
   ·exfalso
    have : Pn * 1 ≤ Pn * z := Nat.mul_le_mul_left _ h0
    omega
  subst hz
  exact ⟨rfl, by omega, by omega⟩
 ·intro h
  obtain ⟨z, hz⟩ : ∃ z, br + cr = un + 1 + z := ⟨br + cr - un - 1, by omega⟩
  rw [hz, Nat.mul_add Pn (un + 1) z, Nat.mul_succ] at he
  have hU : U + Pn + Pn * z = L + gs * V := by omega
  have hg : gs = q + 1 := by
   rcases Nat.lt_or_ge q gs with hlt | hge
   ·omega
   ·exfalso
    obtain rfl : gs = q := by omega
    omega
  subst hg
  rw [Nat.succ_mul] at hU
  have hz0 : z = 0 := by
   rcases Nat.eq_zero_or_pos z with h0 | h0
   ·exact h0
   ·exfalso
    have : Pn * 1 ≤ Pn * z := Nat.mul_le_mul_left _ h0
    omega
  subst hz0
  exact ⟨rfl, by omega, by omega⟩
end Go.Proofs.YtflajoflpkboiaaGreat
