/- The plain law of the inverse modulo m and of the extended greatest common divisor. -/
import Derived.Test.YteicjbinginamaaDoorLawKit
namespace Go.Proofs.YteicjbinginamaaDoor
set_option linter.unusedVariables false

/-- Euclid's algorithm with one sequence of factors -/
def invN (r0 r1 : Nat) (s0 s1 : Int) : Int := if h : r1 = 0 then s0 else invN r1 (r0 % r1) s1 (s0 - ((r0 / r1 : Nat) : Int) * s1)
  termination_by r1
  decreasing_by exact Nat.mod_lt _ (Nat.pos_of_ne_zero h)
theorem invN_zero (r0 : Nat) (s0 s1 : Int) : invN r0 0 s0 s1 = s0 := by rw [invN, dif_pos rfl]
theorem invN_pos (r0 : Nat) {r1 : Nat} (s0 s1 : Int) (h : r1 ≠ 0) : invN r0 r1 s0 s1 = invN r1 (r0 % r1) s1 (s0 - ((r0 / r1 : Nat) : Int) * s1) := by rw [invN, dif_neg h]

/-- the state of the loop: T is what it will return -/
structure InvP (m r0 r1 : Nat) (s0 s1 T : Int) : Prop where
  res : invN r0 r1 s0 s1 = T
  bd : ∃ b0 b1 : Nat, s0.natAbs ≤ b0 ∧ s1.natAbs ≤ b1 ∧ b0 ≤ m ∧ b0 * r1 + b1 * r0 = m
  pos : 1 ≤ r0
  le : r0 ≤ m
theorem InvP.start {m c : Nat} (hm : 1 ≤ m) : InvP m m c 0 1 (invN m c 0 1) := ⟨rfl, ⟨0, 1, by simp, by simp, by omega, by omega⟩, hm, Nat.le_refl _⟩
theorem InvP.bound0 {m r0 r1 : Nat} {s0 s1 T : Int} (h : InvP m r0 r1 s0 s1 T) : s0.natAbs ≤ m := by
  obtain ⟨b0, b1, h0, h1, h2, h3⟩ := h.bd; omega
theorem InvP.bound1 {m r0 r1 : Nat} {s0 s1 T : Int} (h : InvP m r0 r1 s0 s1 T) : s1.natAbs ≤ m := by
  obtain ⟨b0, b1, h0, h1, h2, h3⟩ := h.bd
  have : b1 * 1 ≤ b1 * r0 := Nat.mul_le_mul_left _ h.pos
  omega
theorem InvP.step {m r0 r1 : Nat} {s0 s1 T : Int} (h : InvP m r0 r1 s0 s1 T) (h1 : r1 ≠ 0) (hle : r1 ≤ m) : InvP m r1 (r0 % r1) s1 (s0 - ((r0 / r1 : Nat) : Int) * s1) T := by
  refine ⟨by rw [← invN_pos _ _ _ h1]; exact h.res, ?_, by omega, hle⟩
  have hb1 := h.bound1
  obtain ⟨b0, b1, g0, g1, g2, g3⟩ := h.bd
  have hd := Nat.div_add_mod r0 r1
  have hb : b1 * 1 ≤ b1 * r0 := Nat.mul_le_mul_left _ h.pos
  generalize r0 / r1 = q at *
  generalize r0 % r1 = r at *
  refine ⟨b1, b0 + q * b1, g1, ?_, by omega, ?_⟩
  · have e1 := Int.natAbs_sub_le s0 ((q : Int) * s1)
    rw [Int.natAbs_mul, Int.natAbs_natCast] at e1
    have e2 : q * s1.natAbs ≤ q * b1 := Nat.mul_le_mul_left _ g1
    omega
  · rw [← g3, ← hd]; grind
theorem InvP.fin {m r0 : Nat} {s0 s1 T : Int} (h : InvP m r0 0 s0 s1 T) : s0 = T := by have := h.res; rwa [invN_zero] at this

/-- what the loop returns is the inverse -/
theorem invN_cong (c m : Int) : ∀ (r1 r0 : Nat) (s0 s1 : Int), (∃ k, s0 * c = r0 + k * m) → (∃ k, s1 * c = r1 + k * m) → ∃ k, invN r0 r1 s0 s1 * c = (Nat.gcd r0 r1 : Nat) + k * m := by
  intro r1
  induction r1 using Nat.strongRecOn with
  | _ r1 ih =>
    intro r0 s0 s1 h0 h1
    by_cases hr : r1 = 0
    · subst hr
      rw [invN_zero, Nat.gcd_zero_right]
      exact h0
    · rw [invN_pos _ _ _ hr]
      have := ih (r0 % r1) (Nat.mod_lt _ (Nat.pos_of_ne_zero hr)) r1 s1 (s0 - ((r0 / r1 : Nat) : Int) * s1) h1 (by
        obtain ⟨k0, h0⟩ := h0
        obtain ⟨k1, h1⟩ := h1
        refine ⟨k0 - ((r0 / r1 : Nat) : Int) * k1, ?_⟩
        have hd : (r0 : Int) = (r1 : Int) * ((r0 / r1 : Nat) : Int) + ((r0 % r1 : Nat) : Int) := by
          have := Nat.div_add_mod r0 r1
          exact_mod_cast this.symm
        generalize ((r0 / r1 : Nat) : Int) = q at *
        generalize ((r0 % r1 : Nat) : Int) = r at *
        grind)
      rwa [Nat.gcd_comm r1, ← Nat.gcd_rec, Nat.gcd_comm] at this

theorem sign_self (b : Int) : b.sign * b = (b.natAbs : Int) := by
  rcases Int.lt_trichotomy b 0 with h | h | h
  · rw [Int.sign_eq_neg_one_of_neg h]; omega
  · subst h; rfl
  · rw [Int.sign_eq_one_of_pos h]; omega
/-- the number x of ExtendedGCD, for b not 0 -/
def exX (a b : Int) : Int :=
  let g : Int := (Nat.gcd a.natAbs b.natAbs : Nat)
  let m : Int := (b.natAbs : Int).fdiv g
  (invN m.toNat ((a.fdiv g).fmod m).toNat 0 1).fmod m
def exG (a b : Int) : Int := (Nat.gcd a.natAbs b.natAbs : Nat)
def exU (a b : Int) : Int := if b = 0 then a.sign else exX a b
def exV (a b : Int) : Int := if b = 0 then 0 else (exG a b - a * exX a b).fdiv b

theorem ex_facts (a : Int) {b : Int} (hb : b ≠ 0) : ∃ a' : Int, ∃ m : Nat, a = exG a b * a' ∧ (b.natAbs : Int) = exG a b * m ∧ 0 < exG a b ∧ 1 ≤ m ∧ Nat.gcd a'.natAbs m = 1 ∧ a.fdiv (exG a b) = a' ∧ (b.natAbs : Int).fdiv (exG a b) = m := by
  have hg : 0 < Nat.gcd a.natAbs b.natAbs := Nat.gcd_pos_of_pos_right _ (by omega)
  unfold exG
  obtain ⟨ka, hka⟩ := Nat.gcd_dvd_left a.natAbs b.natAbs
  obtain ⟨kb, hkb⟩ := Nat.gcd_dvd_right a.natAbs b.natAbs
  have hcop : Nat.gcd ka kb = 1 := by
    have e := Nat.gcd_mul_left (Nat.gcd a.natAbs b.natAbs) ka kb
    rw [← hka, ← hkb] at e
    have : Nat.gcd a.natAbs b.natAbs * Nat.gcd ka kb = Nat.gcd a.natAbs b.natAbs * 1 := by rw [Nat.mul_one]; exact e.symm
    exact Nat.eq_of_mul_eq_mul_left hg this
  generalize Nat.gcd a.natAbs b.natAbs = g at *
  have hkb1 : 1 ≤ kb := by
    rcases Nat.eq_zero_or_pos kb with h | h
    · rw [h, Nat.mul_zero] at hkb; omega
    · exact h
  have hgi : (0 : Int) < (g : Int) := by omega
  have ha : a = (g : Int) * (a.sign * ka) := by
    conv => lhs; rw [← Int.sign_mul_natAbs a, hka]
    push_cast
    grind
  refine ⟨a.sign * ka, kb, ha, by rw [hkb]; push_cast; rfl, hgi, hkb1, ?_, ?_, ?_⟩
  · rw [Int.natAbs_mul, Int.natAbs_natCast]
    by_cases h0 : a = 0
    · subst h0
      have : ka = 0 := by
        rcases Nat.eq_zero_or_pos ka with h | h
        · exact h
        · have := Nat.mul_pos hg h; simp at hka; omega
      subst this
      simpa using hcop
    · rw [show a.sign.natAbs = 1 by rw [Int.natAbs_sign, if_neg h0], Nat.one_mul]; exact hcop
  · conv => lhs; rw [ha]
    rw [Int.mul_comm]
    exact Int.mul_fdiv_cancel _ (by omega)
  · rw [hkb]
    push_cast
    rw [Int.mul_comm]
    exact Int.mul_fdiv_cancel _ (by omega)
theorem exX_eq (a : Int) {b : Int} {a' : Int} {m : Nat} (h1 : a.fdiv (exG a b) = a') (h2 : (b.natAbs : Int).fdiv (exG a b) = m) : exX a b = (invN m (a'.fmod m).toNat 0 1).fmod m := by
  unfold exX exG at *
  simp only [h1, h2, Int.toNat_natCast]
/-- a x is g but for a multiple of b -/
theorem ex_cong (a : Int) {b : Int} (hb : b ≠ 0) : ∃ k, exG a b - a * exX a b = b * k := by
  obtain ⟨a', m, ha, hm, hg, hm1, hcop, e1, e2⟩ := ex_facts a hb
  rw [exX_eq a e1 e2]
  have hmi : (0 : Int) < (m : Int) := by omega
  have hc0 := Int.fmod_nonneg_of_pos a' hmi
  obtain ⟨c, hc⟩ : ∃ c : Nat, a'.fmod m = c := ⟨(a'.fmod m).toNat, by omega⟩
  have hdm := Int.fmod_add_mul_fdiv a' (m : Int)
  rw [hc] at hdm ⊢
  rw [Int.toNat_natCast]
  obtain ⟨k, hk⟩ := invN_cong (c : Int) (m : Int) c m 0 1 ⟨-1, by omega⟩ ⟨0, by omega⟩
  have hg1 : Nat.gcd m c = 1 := by
    have h1 : Nat.gcd m c ∣ a'.natAbs := by
      have d1 : ((Nat.gcd m c : Nat) : Int) ∣ (c : Int) := Int.natCast_dvd_natCast.2 (Nat.gcd_dvd_right m c)
      have d2 : ((Nat.gcd m c : Nat) : Int) ∣ (m : Int) := Int.natCast_dvd_natCast.2 (Nat.gcd_dvd_left m c)
      have d3 : ((Nat.gcd m c : Nat) : Int) ∣ a' := by rw [← hdm]; exact Int.dvd_add d1 (Int.dvd_trans d2 (Int.dvd_mul_right _ _))
      exact Int.ofNat_dvd_left.1 d3
    have h2 := Nat.dvd_gcd h1 (Nat.gcd_dvd_left m c)
    rw [hcop] at h2
    exact Nat.eq_one_of_dvd_one h2
  rw [hg1] at hk
  have hx := Int.fmod_add_mul_fdiv (invN m c 0 1) (m : Int)
  generalize invN m c 0 1 = z at *
  generalize z.fmod m = x at *
  generalize z.fdiv m = qz at *
  generalize a'.fdiv m = qa at *
  have hbs : (b.natAbs : Int) = b.sign * b := (sign_self b).symm
  generalize exG a b = g at *
  have key : a' * x = 1 + (k + qa * z - a' * qz) * m := by
    have : a' * x = a' * z - a' * (m * qz) := by rw [← hx]; grind
    rw [this]
    have : a' * z = z * c + m * qa * z := by rw [← hdm]; grind
    rw [this, hk]
    push_cast
    grind
  refine ⟨-(k + qa * z - a' * qz) * b.sign, ?_⟩
  rw [ha]
  have : g * a' * x = g + (k + qa * z - a' * qz) * (g * m) := by rw [Int.mul_assoc, key]; grind
  rw [this, ← hm, hbs]
  grind
/-- the identity of Bézout -/
theorem ex_bezout (a b : Int) : a * exU a b + b * exV a b = exG a b := by
  unfold exU exV
  by_cases hb : b = 0
  · subst hb
    rw [if_pos rfl, if_pos rfl]
    unfold exG
    rw [Int.natAbs_zero, Nat.gcd_zero_right]
    have := sign_self a
    rw [Int.mul_comm] at this
    omega
  · rw [if_neg hb, if_neg hb]
    obtain ⟨k, hk⟩ := ex_cong a hb
    rw [hk, Int.mul_comm b k, Int.mul_fdiv_cancel _ hb, ← hk]
    omega
theorem exG_dvd_left (a b : Int) : exG a b ∣ a := by
  unfold exG
  exact Int.ofNat_dvd_left.2 (Nat.gcd_dvd_left _ _)
theorem exG_dvd_right (a b : Int) : exG a b ∣ b := by
  unfold exG
  exact Int.ofNat_dvd_left.2 (Nat.gcd_dvd_right _ _)
theorem Lim.le_abs2 {k : Nat} {x y : Int} (h : Lim k y) (hx : x.natAbs ≤ y.natAbs) : Lim k x := by unfold Lim at *; omega
theorem exG_lim {k : Nat} {x y : Int} (hx : Lim k x) (hy : Lim k y) : Lim k (exG x y) := by
  by_cases h : y = 0
  · subst h
    exact hx.le_abs2 (by unfold exG; rw [Int.natAbs_natCast, Int.natAbs_zero, Nat.gcd_zero_right]; exact Nat.le_refl _)
  · exact hy.le_abs2 (by unfold exG; rw [Int.natAbs_natCast]; exact Nat.gcd_le_right _ (by omega))
theorem exU_lim {k : Nat} {x y : Int} (hk : 1 ≤ k) (hy : Lim k y) : Lim k (exU x y) := by
  unfold exU
  by_cases h : y = 0
  · rw [if_pos h]
    have : Lim 1 x.sign := by unfold Lim; rw [Int.natAbs_sign]; split <;> decide
    exact this.mono hk
  · rw [if_neg h]
    obtain ⟨a', m, hxa, hym, hg, hm1, -, ef1, ef2⟩ := ex_facts x h
    rw [exX_eq x ef1 ef2]
    have h1 : (1 : Int) * m ≤ exG x y * m := Int.mul_le_mul_of_nonneg_right (by omega) (by omega)
    have LM : Lim k (m : Int) := hy.le_abs2 (by rw [Int.natAbs_natCast]; omega)
    exact LM.fmod (by omega)
theorem exV_lim {k : Nat} {x y : Int} (hk : 1 ≤ k) (hx : Lim k x) (hy : Lim k y) : Lim (k + k + 1 + 1) (exV x y) := by
  unfold exV
  by_cases h : y = 0
  · rw [if_pos h]; unfold Lim; exact Nat.pow_pos (by omega)
  · rw [if_neg h]
    have hu := exU_lim (x := x) hk hy
    unfold exU at hu
    rw [if_neg h] at hu
    exact (Lim.sub ((exG_lim hx hy).mono (show k ≤ k + k by omega)) (hx.mul hu)).fdiv y
theorem exG_nonneg (x y : Int) : 0 ≤ exG x y := by unfold exG; omega
theorem exG_zero {x y : Int} (h : exG x y = 0) : x = 0 ∧ y = 0 := by
  unfold exG at h
  have h' : Nat.gcd x.natAbs y.natAbs = 0 := by omega
  have := Nat.gcd_eq_zero_iff.1 h'
  omega
theorem fmod_of_dvd {x g : Int} (h : g ∣ x) : x.fmod g = 0 := Int.fmod_eq_zero_of_dvd h
end Go.Proofs.YteicjbinginamaaDoor
