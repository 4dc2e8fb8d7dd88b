/- The plain law of Lehmer's steps: the cofactors of the leading digits serve for the whole numbers. -/
import Derived.Test.YtociocengfjioaaGreatDoorIntPlain2
namespace Go.Proofs.YtociocengfjioaaGreatDoor
set_option linter.unusedVariables false

/-- the state of the loop of cofactors -/
structure Cos (A1 A2 a1 a2 u1 u2 v1 v2 : Nat) (even : Bool) : Prop where
  le : a2 ≤ a1
  e1 : A1 = v2 * a1 + v1 * a2
  e2 : A2 = u2 * a1 + u1 * a2
  det : (u1 : Int) * v2 - (v1 : Int) * u2 = if even then -1 else 1
  uv : u2 ≤ v2
  uv' : u1 + u2 ≤ v1 + v2
  v2pos : 1 ≤ v2
  vmono : v1 ≤ v2
  u12 : 1 ≤ u1 + u2
  uv1 : 1 ≤ v1 → u1 ≤ v1
  u2pos : 1 ≤ v1 → 1 ≤ u2
/-- what the last two steps have left -/
structure Cot (A1 A2 p a u0 u1 v0 v1 : Nat) (even : Bool) : Prop where
  e1 : A1 = v1 * p + v0 * a
  e2 : A2 = u1 * p + u0 * a
  det : (u0 : Int) * v1 - (v0 : Int) * u1 = if even then 1 else -1
  uv : u1 ≤ v1
  uv' : u0 + u1 ≤ v0 + v1
  v1pos : 1 ≤ v1
  vmono : v0 ≤ v1
  va : v1 ≤ a
  vp : v0 + v1 + a ≤ p
  uv0 : 1 ≤ v0 → u0 ≤ v0
  u1pos : 1 ≤ v0 → 1 ≤ u1

theorem Cos.start {A1 A2 : Nat} (h : A2 ≤ A1) : Cos A1 A2 A1 A2 1 0 0 1 false where
  le := h
  e1 := by omega
  e2 := by omega
  det := by simp
  uv := by omega
  uv' := by omega
  v2pos := by omega
  vmono := by omega
  u12 := by omega
  uv1 := by omega
  u2pos := by omega
theorem Cos.cot {A1 A2 a1 a2 u1 u2 v1 v2 : Nat} {even : Bool} (h : Cos A1 A2 a1 a2 u1 u2 v1 v2 even) (c1 : v2 ≤ a2) (c2 : v1 + v2 ≤ a1 - a2) : Cot A1 A2 a1 a2 u1 u2 v1 v2 (!even) where
  e1 := h.e1
  e2 := h.e2
  det := by rw [h.det]; cases even <;> rfl
  uv := h.uv
  uv' := h.uv'
  v1pos := h.v2pos
  vmono := h.vmono
  va := c1
  vp := by have := h.le; omega
  uv0 := h.uv1
  u1pos := h.u2pos
theorem Cos.step {A1 A2 a1 a2 u1 u2 v1 v2 : Nat} {even : Bool} (h : Cos A1 A2 a1 a2 u1 u2 v1 v2 even) (c1 : v2 ≤ a2) : Cos A1 A2 a2 (a1 % a2) u2 (u1 + a1 / a2 * u2) v2 (v1 + a1 / a2 * v2) (!even) := by
  have h2 := h.v2pos
  have ha : 0 < a2 := by omega
  have hq : 1 ≤ a1 / a2 := (Nat.le_div_iff_mul_le ha).2 (by have := h.le; omega)
  have hd := Nat.div_add_mod a1 a2
  have hlt := Nat.mod_lt a1 ha
  obtain ⟨q, hqe⟩ : ∃ q, a1 / a2 = q + 1 := ⟨a1 / a2 - 1, by omega⟩
  rw [hqe] at hd hq ⊢
  generalize a1 % a2 = r at *
  have e1 := h.e1
  have e2 := h.e2
  have det := h.det
  have uv := h.uv
  have uv' := h.uv'
  have u12 := h.u12
  have vm := h.vmono
  have hm : q * u2 ≤ q * v2 := Nat.mul_le_mul_left _ uv
  have x1 : (q + 1) * u2 = q * u2 + u2 := Nat.succ_mul _ _
  have x2 : (q + 1) * v2 = q * v2 + v2 := Nat.succ_mul _ _
  refine ⟨by omega, ?_, ?_, ?_, by omega, by omega, by omega, by omega, by omega, fun _ => uv, fun _ => by omega⟩
  · rw [e1, ← hd]; grind
  · rw [e2, ← hd]; grind
  · have : ((u2 : Int) * ((v1 + (q + 1) * v2 : Nat) : Int) - (v2 : Int) * ((u1 + (q + 1) * u2 : Nat) : Int)) = -((u1 : Int) * v2 - (v1 : Int) * u2) := by
      push_cast
      grind
    rw [this, det]
    cases even <;> rfl
/-- no product of the loop leaves 64 bits -/
theorem Cos.fits {A1 A2 a1 a2 u1 u2 v1 v2 : Nat} {even : Bool} (h : Cos A1 A2 a1 a2 u1 u2 v1 v2 even) (c1 : v2 ≤ a2) : v1 + a1 / a2 * v2 ≤ A1 ∧ u1 + a1 / a2 * u2 ≤ A1 ∧ v2 * v2 ≤ A1 := by
  have h2 := h.v2pos
  have s := h.step c1
  have e := s.e1
  have uv := s.uv
  have h3 : (v1 + a1 / a2 * v2) * 1 ≤ (v1 + a1 / a2 * v2) * a2 := Nat.mul_le_mul_left _ (by omega)
  have h4 : v2 * v2 ≤ v2 * a1 := Nat.mul_le_mul_left _ (by have := h.le; omega)
  have e0 := h.e1
  refine ⟨by omega, by omega, by omega⟩
theorem sq_lt {v : Nat} (h : v * v ≤ 18446744073709551615) : v < 4294967296 := by
  rcases Nat.lt_or_ge v 4294967296 with h1 | h1
  · exact h1
  · have := Nat.mul_le_mul h1 h1
    omega
theorem Cot.fits {A1 A2 p a u0 u1 v0 v1 : Nat} {even : Bool} (h : Cot A1 A2 p a u0 u1 v0 v1 even) (hA : A1 ≤ 18446744073709551615) (h0 : 1 ≤ v0) : u0 < 4294967296 ∧ u1 < 4294967296 ∧ v0 < 4294967296 ∧ v1 < 4294967296 := by
  have e := h.e1
  have vp := h.vp
  have h4 : v1 * v1 ≤ v1 * p := Nat.mul_le_mul_left _ (by omega)
  have := sq_lt (v := v1) (by omega)
  have := h.uv0 h0
  have := h.vmono
  have := h.uv
  omega
/-- the new pair of numbers -/
structure LehPair (X Y u0 u1 v0 v1 nx ny : Nat) (even : Bool) : Prop where
  ev : even = true → X * u0 = nx + Y * v0 ∧ Y * v1 = ny + X * u1
  od : even = false → Y * v0 = nx + X * u0 ∧ X * u1 = ny + Y * v1
  lt : ny < nx
  ltY : ny < Y
  leY : nx ≤ Y
  gcd : Nat.gcd nx ny = Nat.gcd X Y

theorem leh_pos {p D ex ey v0 v1 a u0 u1 : Int} (hD : 0 < D) (hx0 : 0 ≤ ex) (hx : ex < D) (hy0 : 0 ≤ ey) (hy : ey < D) (uv : u1 ≤ v1) (uv' : u0 + u1 ≤ v0 + v1) (u1n : 0 ≤ u1) (u0n : 0 ≤ u0) (v0n : 0 ≤ v0) (v1p : 1 ≤ v1) (va : v1 ≤ a) (vp : v0 + v1 + a ≤ p) :
    (0 < a * D + ey * v1 - ex * u1 ∧ a * D + ey * v1 - ex * u1 < p * D + ex * u0 - ey * v0) ∧ (0 < a * D + ex * u1 - ey * v1 ∧ a * D + ex * u1 - ey * v1 < p * D + ey * v0 - ex * u0) := by
  have m1 : ex * u1 ≤ ex * v1 := Int.mul_le_mul_of_nonneg_left uv hx0
  have m2 : ex * v1 < D * v1 := Int.mul_lt_mul_of_pos_right hx (by omega)
  have m3 : v1 * D ≤ a * D := Int.mul_le_mul_of_nonneg_right va (by omega)
  have m4 : 0 ≤ ey * v1 := Int.mul_nonneg hy0 (by omega)
  have m5 : 0 ≤ ex * u1 := Int.mul_nonneg hx0 (by omega)
  have m6 : ey * v1 < D * v1 := Int.mul_lt_mul_of_pos_right hy (by omega)
  have m7 : ey * (v0 + v1) < D * (v0 + v1) := Int.mul_lt_mul_of_pos_right hy (by omega)
  have m8 : ex * (u0 + u1) ≤ ex * (v0 + v1) := Int.mul_le_mul_of_nonneg_left uv' hx0
  have m9 : ex * (v0 + v1) < D * (v0 + v1) := Int.mul_lt_mul_of_pos_right hx (by omega)
  have n1 : (v0 + v1) * D ≤ (p - a) * D := Int.mul_le_mul_of_nonneg_right (by omega) (by omega)
  have n2 : 0 ≤ ex * (u0 + u1) := Int.mul_nonneg hx0 (by omega)
  have n3 : 0 ≤ ey * (v0 + v1) := Int.mul_nonneg hy0 (by omega)
  rw [Int.mul_comm D v1] at m2 m6
  rw [Int.mul_comm D (v0 + v1)] at m7 m9
  rw [Int.sub_mul] at n1
  simp only [Int.mul_add] at m7 m8 m9 n2 n3
  omega

theorem Cot.leh {X Y D A1 A2 ex ey p a u0 u1 v0 v1 : Nat} {even : Bool} (h : Cot A1 A2 p a u0 u1 v0 v1 even) (h0 : 1 ≤ v0) (hX : X = A1 * D + ex) (hY : Y = A2 * D + ey) (hx : ex < D) (hy : ey < D) :
    ∃ nx ny, LehPair X Y u0 u1 v0 v1 nx ny even := by
  have e1 : (A1 : Int) = v1 * p + v0 * a := by rw [h.e1]; push_cast; rfl
  have e2 : (A2 : Int) = u1 * p + u0 * a := by rw [h.e2]; push_cast; rfl
  have hX' : (X : Int) = A1 * D + ex := by rw [hX]; push_cast; rfl
  have hY' : (Y : Int) = A2 * D + ey := by rw [hY]; push_cast; rfl
  have hp := leh_pos (p := p) (D := D) (ex := ex) (ey := ey) (v0 := v0) (v1 := v1) (a := a) (u0 := u0) (u1 := u1) (by omega) (by omega) (by omega) (by omega) (by omega) (by have := h.uv; omega) (by have := h.uv'; omega) (by omega) (by omega) (by omega) (by have := h.v1pos; omega) (by have := h.va; omega) (by have := h.vp; omega)
  have det := h.det
  have u1p := h.u1pos h0
  cases even
  · simp only [Bool.false_eq_true, if_false] at det
    have i1 : (Y : Int) * v0 - X * u0 = p * D + ey * v0 - ex * u0 := by rw [hX', hY', e1, e2]; grind
    have i2 : (X : Int) * u1 - Y * v1 = a * D + ex * u1 - ey * v1 := by rw [hX', hY', e1, e2]; grind
    obtain ⟨_, hn1, hn2⟩ := hp
    rw [← i1] at hn2
    rw [← i2] at hn1 hn2
    obtain ⟨nx, hnx⟩ : ∃ nx : Nat, (nx : Int) = Y * v0 - X * u0 := ⟨((Y : Int) * v0 - X * u0).toNat, by omega⟩
    obtain ⟨ny, hny⟩ : ∃ ny : Nat, (ny : Int) = X * u1 - Y * v1 := ⟨((X : Int) * u1 - Y * v1).toNat, by omega⟩
    have b1 : Y * v0 = nx + X * u0 := by have : ((Y * v0 : Nat) : Int) = ((nx + X * u0 : Nat) : Int) := by push_cast; omega
                                         exact_mod_cast this
    have b2 : X * u1 = ny + Y * v1 := by have : ((X * u1 : Nat) : Int) = ((ny + Y * v1 : Nat) : Int) := by push_cast; omega
                                         exact_mod_cast this
    have c1 : X = v1 * nx + v0 * ny := by
      have : ((X : Nat) : Int) = ((v1 * nx + v0 * ny : Nat) : Int) := by push_cast; rw [hnx, hny]; grind
      exact_mod_cast this
    have c2 : Y = u1 * nx + u0 * ny := by
      have : ((Y : Nat) : Int) = ((u1 * nx + u0 * ny : Nat) : Int) := by push_cast; rw [hnx, hny]; grind
      exact_mod_cast this
    have hlt : ny < nx := by omega
    have hle : nx ≤ Y := by
      have : 1 * nx ≤ u1 * nx := Nat.mul_le_mul_right _ u1p
      omega
    refine ⟨nx, ny, ⟨fun h => by simp at h, fun _ => ⟨b1, b2⟩, hlt, by omega, hle, Nat.dvd_antisymm ?_ ?_⟩⟩
    · have d1 := Nat.gcd_dvd_left nx ny
      have d2 := Nat.gcd_dvd_right nx ny
      refine Nat.dvd_gcd ?_ ?_
      · conv => rhs; rw [c1]
        exact Nat.dvd_add (Nat.dvd_trans d1 (Nat.dvd_mul_left _ _)) (Nat.dvd_trans d2 (Nat.dvd_mul_left _ _))
      · conv => rhs; rw [c2]
        exact Nat.dvd_add (Nat.dvd_trans d1 (Nat.dvd_mul_left _ _)) (Nat.dvd_trans d2 (Nat.dvd_mul_left _ _))
    · have d1 := Nat.gcd_dvd_left X Y
      have d2 := Nat.gcd_dvd_right X Y
      refine Nat.dvd_gcd ?_ ?_
      · exact (Nat.dvd_add_left (Nat.dvd_trans d1 (Nat.dvd_mul_right _ u0))).1 (by rw [← b1]; exact Nat.dvd_trans d2 (Nat.dvd_mul_right _ _))
      · exact (Nat.dvd_add_left (Nat.dvd_trans d2 (Nat.dvd_mul_right _ v1))).1 (by rw [← b2]; exact Nat.dvd_trans d1 (Nat.dvd_mul_right _ _))
  · simp only [if_true] at det
    have i1 : (X : Int) * u0 - Y * v0 = p * D + ex * u0 - ey * v0 := by rw [hX', hY', e1, e2]; grind
    have i2 : (Y : Int) * v1 - X * u1 = a * D + ey * v1 - ex * u1 := by rw [hX', hY', e1, e2]; grind
    obtain ⟨⟨hn1, hn2⟩, _⟩ := hp
    rw [← i1] at hn2
    rw [← i2] at hn1 hn2
    obtain ⟨nx, hnx⟩ : ∃ nx : Nat, (nx : Int) = X * u0 - Y * v0 := ⟨((X : Int) * u0 - Y * v0).toNat, by omega⟩
    obtain ⟨ny, hny⟩ : ∃ ny : Nat, (ny : Int) = Y * v1 - X * u1 := ⟨((Y : Int) * v1 - X * u1).toNat, by omega⟩
    have b1 : X * u0 = nx + Y * v0 := by have : ((X * u0 : Nat) : Int) = ((nx + Y * v0 : Nat) : Int) := by push_cast; omega
                                         exact_mod_cast this
    have b2 : Y * v1 = ny + X * u1 := by have : ((Y * v1 : Nat) : Int) = ((ny + X * u1 : Nat) : Int) := by push_cast; omega
                                         exact_mod_cast this
    have c1 : X = v1 * nx + v0 * ny := by
      have : ((X : Nat) : Int) = ((v1 * nx + v0 * ny : Nat) : Int) := by push_cast; rw [hnx, hny]; grind
      exact_mod_cast this
    have c2 : Y = u1 * nx + u0 * ny := by
      have : ((Y : Nat) : Int) = ((u1 * nx + u0 * ny : Nat) : Int) := by push_cast; rw [hnx, hny]; grind
      exact_mod_cast this
    have hlt : ny < nx := by omega
    have hle : nx ≤ Y := by
      have : 1 * nx ≤ u1 * nx := Nat.mul_le_mul_right _ u1p
      omega
    refine ⟨nx, ny, ⟨fun _ => ⟨b1, b2⟩, fun h => by simp at h, hlt, by omega, hle, Nat.dvd_antisymm ?_ ?_⟩⟩
    · have d1 := Nat.gcd_dvd_left nx ny
      have d2 := Nat.gcd_dvd_right nx ny
      refine Nat.dvd_gcd ?_ ?_
      · conv => rhs; rw [c1]
        exact Nat.dvd_add (Nat.dvd_trans d1 (Nat.dvd_mul_left _ _)) (Nat.dvd_trans d2 (Nat.dvd_mul_left _ _))
      · conv => rhs; rw [c2]
        exact Nat.dvd_add (Nat.dvd_trans d1 (Nat.dvd_mul_left _ _)) (Nat.dvd_trans d2 (Nat.dvd_mul_left _ _))
    · have d1 := Nat.gcd_dvd_left X Y
      have d2 := Nat.gcd_dvd_right X Y
      refine Nat.dvd_gcd ?_ ?_
      · exact (Nat.dvd_add_left (Nat.dvd_trans d2 (Nat.dvd_mul_right _ v0))).1 (by rw [← b1]; exact Nat.dvd_trans d1 (Nat.dvd_mul_right _ _))
      · exact (Nat.dvd_add_left (Nat.dvd_trans d1 (Nat.dvd_mul_right _ u1))).1 (by rw [← b2]; exact Nat.dvd_trans d2 (Nat.dvd_mul_right _ _))

/-- the leading 64 bits by digits -/
theorem val_drop (xs : List Nat) (j : Nat) (h : W32 xs) : val (xs.drop j) = val xs / 4294967296 ^ j := by
  by_cases hj : j ≤ xs.length
  · have e := val_append (xs.take j) (xs.drop j)
    rw [List.take_append_drop, List.length_take, Nat.min_eq_left hj] at e
    have hl := val_lt (h.take j)
    rw [List.length_take, Nat.min_eq_left hj] at hl
    rw [e, Nat.add_mul_div_left _ _ (Nat.pow_pos (by omega)), Nat.div_eq_of_lt hl, Nat.zero_add]
  · rw [List.drop_eq_nil_of_le (by omega), val_nil, Nat.div_eq_of_lt]
    exact Nat.lt_of_lt_of_le (val_lt h) (Nat.pow_le_pow_right (by omega) (by omega))
theorem val_three (xs : List Nat) (j : Nat) (hl : xs.length ≤ j + 3) : val (xs.drop j) = xs.getD j 0 + 4294967296 * (xs.getD (j + 1) 0 + 4294967296 * xs.getD (j + 2) 0) := by
  have h : ∀ ys : List Nat, ys.length ≤ 3 → val ys = ys.getD 0 0 + 4294967296 * (ys.getD 1 0 + 4294967296 * ys.getD 2 0) := by
    intro ys hy
    match ys, hy with
    | [], _ => rfl
    | [a], _ => simp [val]
    | [a, b], _ => simp [val]
    | [a, b, c], _ => simp [val]
    | _ :: _ :: _ :: _ :: _, hy => simp at hy
  rw [h _ (by rw [List.length_drop]; omega)]
  simp [List.getD_eq_getElem?_getD, List.getElem?_drop]
/-- the number whose leading bits are looked at -/
theorem window_val (xs : List Nat) (n s : Nat) (hn : 3 ≤ n) (hl : xs.length ≤ n) (hw : W32 xs) (hs : s ≤ 31) :
    (xs.getD (n - 1) 0 * 4294967296 + xs.getD (n - 2) 0) * 2 ^ s + xs.getD (n - 3) 0 / 2 ^ (32 - s) = val xs / 2 ^ (32 * (n - 2) - s) := by
  have e3 := val_three xs (n - 3) (by omega)
  rw [val_drop xs _ hw, show n - 3 + 1 = n - 2 by omega, show n - 3 + 2 = n - 1 by omega] at e3
  have ep : 2 ^ (32 * (n - 2) - s) = 4294967296 ^ (n - 3) * 2 ^ (32 - s) := by
    rw [show (4294967296 : Nat) = 2 ^ 32 by rfl, ← Nat.pow_mul, ← Nat.pow_add]; congr 1; omega
  rw [ep, ← Nat.div_div_eq_div_mul, e3]
  have e32 : 4294967296 = 2 ^ (32 - s) * 2 ^ s := by rw [← Nat.pow_add, show 32 - s + s = 32 by omega]
  generalize xs.getD (n - 3) 0 = k
  generalize xs.getD (n - 2) 0 = l
  generalize xs.getD (n - 1) 0 = m
  have hp : 0 < 2 ^ (32 - s) := Nat.pow_pos (by omega)
  conv => rhs; rw [e32]
  rw [show 2 ^ (32 - s) * 2 ^ s * (l + 2 ^ (32 - s) * 2 ^ s * m) = 2 ^ (32 - s) * (2 ^ s * (l + 2 ^ (32 - s) * 2 ^ s * m)) by rw [Nat.mul_assoc], Nat.add_mul_div_left _ _ hp, ← e32, Nat.add_comm]
  congr 1
  rw [Nat.mul_comm (2 ^ s)]
  congr 1
  omega

/-- one digit of x u - y v -/
theorem comb_step {P uX vY d q br p ux vy : Nat} (h : uX + P * q + P * br = d + vY + P * p) (hbr : br ≤ 1) :
    (uX + P * ux) + P * 4294967296 * ((q + vy) / 4294967296) + P * 4294967296 * (if (p + ux) % 4294967296 < (q + vy) % 4294967296 + br then 1 else 0) =
      (d + P * (((p + ux) % 4294967296 + 4294967296 + 4294967296 - (q + vy) % 4294967296 - br) % 4294967296)) + (vY + P * vy) + P * 4294967296 * ((p + ux) / 4294967296) := by
  have hp := Nat.mod_add_div (p + ux) 4294967296
  have hq := Nat.mod_add_div (q + vy) 4294967296
  have lp := Nat.mod_lt (p + ux) (show 4294967296 > 0 by omega)
  have lq := Nat.mod_lt (q + vy) (show 4294967296 > 0 by omega)
  generalize (p + ux) % 4294967296 = l at *
  generalize (p + ux) / 4294967296 = p' at *
  generalize (q + vy) % 4294967296 = m at *
  generalize (q + vy) / 4294967296 = q' at *
  have hbase : ∀ t b : Nat, b ≤ 1 → l + 4294967296 * b = t + m + br → ux + 4294967296 * q' + 4294967296 * b + p = t + vy + 4294967296 * p' + q + br := by intro t b hb ht; omega
  have key : ∀ t b : Nat, b ≤ 1 → l + 4294967296 * b = t + m + br → (uX + P * ux) + P * 4294967296 * q' + P * 4294967296 * b = (d + P * t) + (vY + P * vy) + P * 4294967296 * p' := by
    intro t b hb ht
    have h2 := congrArg (P * ·) (hbase t b hb ht)
    simp only [Nat.mul_add] at h2
    simp only [Nat.mul_assoc]
    omega
  split
  · rename_i hlt
    have := key ((l + 4294967296 + 4294967296 - m - br) % 4294967296) 1 (by omega) (by omega)
    omega
  · rename_i hlt
    have := key ((l + 4294967296 + 4294967296 - m - br) % 4294967296) 0 (by omega) (by omega)
    omega
theorem comb_end {P uX vY d q br p R : Nat} (h : uX + P * q + P * br = d + vY + P * p) (hd : d < P) (hR : uX = R + vY) (hRP : R < P) : d = R := by
  have h1 : R + P * (q + br) = d + P * p := by rw [Nat.mul_add]; omega
  have h2 := congrArg (· % P) h1
  simp only [Nat.add_mul_mod_self_left] at h2
  rw [Nat.mod_eq_of_lt hRP, Nat.mod_eq_of_lt hd] at h2
  exact h2.symm
end Go.Proofs.YtociocengfjioaaGreatDoor
