/- Walk of divDigits of the reference. -/
import Derived.Test.YtociocengfjioaaGreatDoorRefF
namespace Go.Proofs.YtociocengfjioaaGreatDoor
open Go.RowKit
set_option linter.unusedVariables false

/-- a slice that does not lie in block g -/
def Off (g : Nat) (A : Option Addr) (n : Nat) : Prop := 0 < n → ∃ b off, A = some ⟨b, off, none⟩ ∧ b ≠ g
theorem Rd.setFar {k : IntKind} {w : World} {B n g i : Nat} {A : Option Addr} {xs : List Nat} (h : Rd k w B A n xs) (ho : Off g A n) (u : Value) : Rd k (w.setCell ⟨g, i, none⟩ u) B A n xs := by
  refine ⟨h.1, fun hn => ?_⟩
  obtain ⟨b, off, e, hb, hc⟩ := h.2 hn
  obtain ⟨b', off', e', hne⟩ := ho hn
  rw [e] at e'
  injection e' with e'
  injection e' with e1 e2
  subst e1 e2
  exact ⟨b, off, e, hb, fun j x hx => (World.cell?_setCell_other _ _ _ _ (fun e => hne (congrArg Addr.block e).symm)).trans (hc j x hx)⟩
theorem Rd.off {k : IntKind} {w : World} {g n : Nat} {A : Option Addr} {xs : List Nat} (h : Rd k w g A n xs) : Off g A n := fun hn => by
  obtain ⟨b, off, e, hb, hc⟩ := h.2 hn
  exact ⟨b, off, e, by omega⟩
theorem off_new {g n : Nat} {A : Option Addr} {w : World} (h : A = some ⟨w.heap.size, 0, none⟩) (hg : g < w.heap.size) : Off g A n := fun _ => ⟨_, _, h, by omega⟩

theorem div_start {a b n : Nat} (hb : b ≠ 0) (hn : blen a = blen b + n) : a < b * 2 ^ (n + 1) := by
  have h1 := blen_lt a
  have h2 := blen_ge hb
  have h3 : blen b = blen b - 1 + 1 := by
    rcases Nat.eq_zero_or_pos (blen b) with h | h
    · have := blen_lt b; rw [h] at this; omega
    · omega
  rw [hn, h3, show blen b - 1 + 1 + n = (blen b - 1) + (n + 1) by omega, Nat.pow_add] at h1
  exact Nat.lt_of_lt_of_le h1 (Nat.mul_le_mul_right _ h2)
theorem div_len {a b n : Nat} (hn : blen a = blen b + n) : (digits (b * 2 ^ n)).length ≤ (digits a).length := by
  apply digits_len_le
  have h1 := blen_lt b
  have h2 : b * 2 ^ n < 2 ^ blen a := by rw [hn, Nat.pow_add]; exact (Nat.mul_lt_mul_right (Nat.two_pow_pos n)).2 h1
  have h3 : blen a ≤ 32 * (digits a).length := by
    apply blen_le
    have := digits_lt a
    rw [Nat.pow_mul]
    exact this
  have h4 : (4294967296 : Nat) ^ (digits a).length = 2 ^ (32 * (digits a).length) := by rw [Nat.pow_mul]
  rw [h4]
  exact Nat.lt_of_lt_of_le h2 (Nat.pow_le_pow_right (by omega) h3)
theorem div_yes {a Q b i r D : Nat} (ha : a = Q * (b * 2 ^ (i + 1)) + r) (hr : r < b * 2 ^ (i + 1)) (hD : D = b * 2 ^ i) (h : D ≤ r) : a = (2 * Q + 1) * (b * 2 ^ i) + (r - D) ∧ r - D < b * 2 ^ i := by
  have e : b * 2 ^ (i + 1) = 2 * (b * 2 ^ i) := by rw [Nat.pow_succ, ← Nat.mul_assoc, Nat.mul_comm]
  rw [e] at ha hr
  subst hD
  generalize b * 2 ^ i = P at *
  refine ⟨?_, by omega⟩
  rw [Nat.add_mul, Nat.one_mul, Nat.mul_comm 2 Q, Nat.mul_assoc]
  omega
theorem div_no {a Q b i r D : Nat} (ha : a = Q * (b * 2 ^ (i + 1)) + r) (hD : D = b * 2 ^ i) (h : r < D) : a = (2 * Q) * (b * 2 ^ i) + r ∧ r < b * 2 ^ i := by
  have e : b * 2 ^ (i + 1) = 2 * (b * 2 ^ i) := by rw [Nat.pow_succ, ← Nat.mul_assoc, Nat.mul_comm]
  rw [e] at ha
  subst hD
  generalize b * 2 ^ i = P at *
  refine ⟨?_, h⟩
  rw [Nat.mul_comm 2 Q, Nat.mul_assoc]
  exact ha
theorem val_digit {qs : List Nat} (hw : W32 qs) {k : Nat} : qs.getD k 0 = val qs / 4294967296 ^ k % 4294967296 := by
  induction qs generalizing k with
  | nil => simp [val]
  | cons q qs ih =>
    have hq := hw.cons.1
    cases k with
    | zero => rw [val_cons]; simp; omega
    | succ k =>
      rw [List.getD_cons_succ, ih hw.cons.2, val_cons, Nat.pow_succ, Nat.mul_comm (4294967296 ^ k) 4294967296, ← Nat.div_div_eq_div_mul]
      congr 2
      omega
theorem bit_set {qs : List Nat} {Q i : Nat} (hw : W32 qs) (hv : val qs = Q * 2 ^ (i + 1)) (hl : i / 32 < qs.length) :
    ∃ z, z = qs.getD (i / 32) 0 ∧ bits .or .u32 (z : Int) ((2 ^ (i % 32) : Nat) : Int) = ((z + 2 ^ (i % 32) : Nat) : Int) ∧ z + 2 ^ (i % 32) < 4294967296 ∧ val (qs.set (i / 32) (z + 2 ^ (i % 32))) = (2 * Q + 1) * 2 ^ i := by
  have ht : i % 32 < 32 := Nat.mod_lt _ (by omega)
  have hi : i = 32 * (i / 32) + i % 32 := by omega
  have hz := val_digit hw (k := i / 32)
  have hB : (4294967296 : Nat) ^ (i / 32) = 2 ^ (32 * (i / 32)) := by rw [Nat.pow_mul]
  have hp : 2 ^ (i + 1) = 4294967296 ^ (i / 32) * 2 ^ (i % 32 + 1) := by rw [hB, ← Nat.pow_add]; congr 1; omega
  have hpi : 2 ^ i = 4294967296 ^ (i / 32) * 2 ^ (i % 32) := by rw [hB, ← Nat.pow_add]; congr 1
  have hP : 0 < 4294967296 ^ (i / 32) := Nat.pow_pos (by omega)
  have hz2 : qs.getD (i / 32) 0 = Q * 2 ^ (i % 32 + 1) % 4294967296 := by
    rw [hz, hv, hp, Nat.mul_left_comm, Nat.mul_div_cancel_left _ hP]
  have hd : 4294967296 = 2 ^ (i % 32 + 1) * 2 ^ (31 - i % 32) := by rw [← Nat.pow_add, show i % 32 + 1 + (31 - i % 32) = 32 by omega]
  have hm : qs.getD (i / 32) 0 % 2 ^ (i % 32 + 1) = 0 := by
    rw [hz2]
    conv => lhs; arg 1; rw [hd]
    rw [Nat.mod_mul_right_mod, Nat.mul_mod_left]
  have hzl := hw.getD (i / 32)
  have hb : 2 ^ (i % 32) < 2 ^ (i % 32 + 1) := Nat.pow_lt_pow_right (by omega) (by omega)
  have hb2 : 2 ^ (i % 32) ≤ 2147483648 := Nat.pow_le_pow_right (by omega) (show i % 32 ≤ 31 by omega)
  have hj : qs.getD (i / 32) 0 ||| 2 ^ (i % 32) = qs.getD (i / 32) 0 + 2 ^ (i % 32) := nat_join (i % 32 + 1) _ _ hm hb
  have hlt : qs.getD (i / 32) 0 ||| 2 ^ (i % 32) < 4294967296 := Nat.or_lt_two_pow (n := 32) hzl (Nat.lt_of_le_of_lt hb2 (by decide))
  refine ⟨_, rfl, ?_, by omega, ?_⟩
  · rw [u32_or_nat _ _ hzl (Nat.lt_of_le_of_lt hb2 (by omega)), hj]
  · have e := val_set qs (i / 32) (qs.getD (i / 32) 0 + 2 ^ (i % 32)) hl
    rw [Nat.mul_add] at e
    have e2 : (2 * Q + 1) * 2 ^ i = val qs + 4294967296 ^ (i / 32) * 2 ^ (i % 32) := by
      rw [hv, ← hpi, Nat.pow_succ, Nat.add_mul, Nat.one_mul, Nat.mul_comm 2 Q, Nat.mul_assoc, Nat.mul_comm 2 (2 ^ i)]
    rw [e2]
    omega

theorem half_pow {b i : Nat} (h : 0 < i) : b * 2 ^ i / 2 = b * 2 ^ (i - 1) := by
  obtain ⟨j, rfl⟩ : ∃ j, i = j + 1 := ⟨i - 1, by omega⟩
  rw [Nat.pow_succ, ← Nat.mul_assoc, Nat.mul_div_cancel _ (by omega)]
  simp

theorem wrap_small (P : Nat) (h : P ≤ 2147483648) : IntKind.u32.wrap (P : Int) = (P : Int) := by rw [IntKind.wrap_u32]; omega

/-- the state of the loop of divDigits, i steps to come -/
def DivS (w wr : World) (g N a b i : Nat) (rv dv : Value) : Prop :=
  ∃ (r D Q : Nat) (qs : List Nat) (A A' : Option Addr) (n n' c c' : Nat), rv = .slice A n c ∧ dv = .slice A' n' c' ∧ Rd .u32 wr wr.heap.size A n (digits r) ∧ Rd .u32 wr wr.heap.size A' n' (digits D) ∧ Off g A n ∧ Off g A' n' ∧
    n ≤ c ∧ c ≤ 9223372036854775807 ∧ n' ≤ c' ∧ c' ≤ 9223372036854775807 ∧ r ≤ a ∧ (digits D).length ≤ (digits a).length ∧ a = Q * (b * 2 ^ i) + r ∧ r < b * 2 ^ i ∧ (0 < i → D = b * 2 ^ (i - 1)) ∧
    Buf .u32 86 wr g qs ∧ qs.length = N ∧ W32 qs ∧ val qs = Q * 2 ^ i ∧ Below w.heap.size w wr ∧ w.heap.size ≤ g

set_option maxHeartbeats 2000000 in
set_option maxRecDepth 100000 in
theorem divDigits_any {A A' : Option Addr} {m n c c' a b : Nat} (w : World) (hr : Rd .u32 w w.heap.size A m (digits a)) (hr' : Rd .u32 w w.heap.size A' n (digits b)) (hmc : m ≤ c) (hc : c ≤ 9223372036854775807) (hnc : n ≤ c') (hc' : c' ≤ 9223372036854775807) (hm : m ≤ 1073741824) (hn : n ≤ 1073741824) (hb : b ≠ 0) :
    Calls Tryz.prog 116 #[.slice A m c, .slice A' n c'] w (RetTwo w (a / b) (a % b)) := by
  have HT := Lib.hid (refTrim_mag (c := c) w hr (digits_w32 a) hmc hc)
  rw [val_digits] at HT
  have HLA := Lib.hid hr.len
  have HLB := Lib.hid hr'.len
  have HB1 := Lib.hid (fun W (h : Rd .u32 W W.heap.size A m (digits a)) => refBitLen_any (c := c) W h (digits_w32 a) hmc hc (by omega))
  have HB2 := Lib.hid (fun W (h : Rd .u32 W W.heap.size A' n (digits b)) => refBitLen_any (c := c') W h (digits_w32 b) hnc hc' (by omega))
  simp only [val_digits] at HB1 HB2
  have hba : blen a ≤ 34359738368 := by
    have : blen a ≤ 32 * (digits a).length := blen_le (by have := digits_lt a; rw [Nat.pow_mul]; exact this)
    rw [HLA.out] at this
    omega
  have hbb : blen b ≤ 34359738368 := by
    have : blen b ≤ 32 * (digits b).length := blen_le (by have := digits_lt b; rw [Nat.pow_mul]; exact this)
    rw [HLB.out] at this
    omega
  go_enter Tryz.func116, Tryz.ntmps116
  go_wp2_with fail
  refine HT.out.mono ?_
  rintro e w1 ⟨m1, rfl, r1, hm1, rfl⟩
  clear HT
  have hl1 : m1 ≤ 1073741824 := by omega
  have HL1 := Lib.hid r1.len
  go_wp2_with (at_builtin; refine wpList_append_lst Tryz.elemU32 Tryz.underlying22 (Own.nil (w0 := w) (Below.refl _ _)) r1 rfl rfl rfl rfl (by simp; omega) (by simp; omega) ?_; intro v2 w2 o2 _ _; rw [List.nil_append] at o2; obtain ⟨A2, n2, c2, rfl, r2, h2, h2'⟩ := o2.form'; have b2 := o2.2)
  refine (HB1.out _ (hr.call b2)).mono ?_
  rintro e w3 ⟨rfl, rfl⟩
  go_wp2_with fail
  refine (HB2.out _ (hr'.call b2)).mono ?_
  rintro e w3 ⟨rfl, rfl⟩
  clear HB1 HB2 r1
  have HBA := Lib.hid (show blen a = blen a from rfl)
  by_cases hlt : blen a < blen b
  · have hd : decide ((blen a : Int) - (blen b : Int) < 0) = true := by simp; omega
    have hab : a < b := by
      rcases Nat.lt_or_ge a b with h | h
      · exact h
      · have h1 := blen_lt a
        have h2 := blen_ge hb
        have h3 : 2 ^ blen a ≤ 2 ^ (blen b - 1) := Nat.pow_le_pow_right (by omega) (by omega)
        omega
    have HQ : Hid (a / b = 0) := Nat.div_eq_of_lt hab
    have HR : Hid (a % b = a) := Nat.mod_eq_of_lt hab
    generalize blen a = ba at *
    generalize blen b = bb at *
    go_wp2
    go_ret2
    exact ⟨none, 0, 0, A2, n2, c2, rfl, by rw [HQ.out, digits_zero]; exact Rd.nil, by rw [HR.out]; exact r2, by omega, by omega, h2, h2', b2⟩
  · obtain ⟨k, hk⟩ : ∃ k, blen a = blen b + k := ⟨blen a - blen b, by omega⟩
    have HS := Lib.hid (div_start hb hk)
    have HDL := Lib.hid (div_len hk)
    have hkk : (blen a : Int) - (blen b : Int) = (k : Int) := by omega
    have hkb : k ≤ 34359738368 := by omega
    have hkd : decide ((k : Int) < 0) = false := by simp
    generalize blen a = ba at *
    generalize blen b = bb at *
    have q1 : (k : Int).tdiv 32 = ((k / 32 : Nat) : Int) := by rw [Int.tdiv_eq_ediv_of_nonneg (by omega)]; omega
    have q2 : (k : Int) / 32 = ((k / 32 : Nat) : Int) := by omega
    obtain ⟨N, hN⟩ : ∃ N, k / 32 + 1 = N := ⟨_, rfl⟩
    rw [show k / 32 = N - 1 by omega] at q1 q2
    have hN1 : 1 ≤ N := by omega
    have hN2 : N ≤ 34359738369 := by omega
    have HN := Lib.hid hN
    clear hk hlt hN
    go_wp2_with (at_make; refine wpList_make_lst (kx := .i64) (ky := .i64) (n := N) (c := N) Tryz.elemU32 Tryz.underlying22 rfl rfl (congrArg (Value.int .i64) (by omega)) (congrArg (Value.int .i64) (by omega)) (Nat.le_refl _) (by omega) (by omega) ?_)
    intro w4 B4 b4 l4
    have HSH := Lib.hid (refShift_new (c := c') (k := k) w4 ((hr'.call b2).call b4) (digits_w32 b) (by omega) (by omega))
    rw [val_digits] at HSH
    generalize hg : w2.heap.size = g at *
    have hgw : w.heap.size ≤ g := by rw [← hg]; exact b2.size
    have r4 := r2.below b4
    have of4 := r4.off
    have b5 := b2.trans (b4.mono hgw)
    clear hg q1 q2 hkk
    go_wp2_with fail
    refine HSH.out.mono ?_
    rintro e w5 ⟨A5, n5, c5, rfl, r5, h5, h5', d5, e5⟩
    have E5 := Lib.hid e5
    clear e5 HSH
    have B5 := B4.below d5 l4
    have r6 := (r4.more (Nat.le_of_lt l4)).call d5
    have b6 := bthen b5 d5
    clear B4 r4 b4 b5 r2 b2 o2
    have HE : Hid (DivS w w5 g N a b (k + 1) (.slice A2 n2 c2) (.slice A5 n5 c5)) :=
      ⟨a, b * 2 ^ k, 0, List.replicate N 0, A2, A5, n2, n5, c2, c5, rfl, rfl, r6, r5, of4, off_new E5.out l4, h2, h2', h5, h5', Nat.le_refl _, HDL.out, by simp, HS.out, fun _ => rfl, B5, by simp, W32.rep N, by rw [val_rep]; simp, b6, hgw⟩
    have hlw : g < w5.heap.size := Nat.lt_of_lt_of_le l4 d5.size
    clear r5 r6 B5 of4 E5 h2 h2' h5 h5' b6 d5 HS HDL hr hr' HL1
    go_wp2_with fail
    go_loopg [6, 9, 10] (k + 1) (fun i rv dv iv wx => iv = .int .i64 ((i : Int) - 1) ∧ i ≤ k + 1 ∧ Hid (DivS w wx g N a b i rv dv))
    case atStart => exact ⟨by go_num, Nat.le_refl _, HE⟩
    case round =>
      clear HE hlw
      obtain ⟨i, rfl⟩ : ∃ i, i = gk := ⟨_, rfl⟩
      obtain ⟨rfl, hik, HD⟩ := hrel
      obtain ⟨r, D, Q, qs, A3, A4, n3, n4, c3, c4, rfl, rfl, r3, r4, of3, of4, x1, x2, x3, x4, hra, hDl, hA, hrb, hDi, hB, hql, hqw, hqv, hbw, hgw'⟩ := HD.out
      have HQL := Lib.hid hql
      have HQV := Lib.hid hqv
      have HA := Lib.hid hA
      have HDI := Lib.hid hDi
      have HRB := Lib.hid hrb
      have hn3 : n3 ≤ 1073741824 := by have h := digits_len_mono hra; rw [r3.len, HLA.out] at h; omega
      have hn4 : n4 ≤ 1073741824 := by have h := hDl; rw [r4.len, HLA.out] at h; omega
      clear HD hql hqv hA hDi hrb hgw'
      by_cases hi0 : i = 0
      · subst hi0
        have hrd := hB.rd
        rw [HQL.out] at hrd
        have hqe : val qs = a / b ∧ r = a % b := by
          have h1 := HA.out
          have h2 := HRB.out
          rw [Nat.pow_zero, Nat.mul_one] at h1 h2
          have h3 := HQV.out
          rw [Nat.pow_zero, Nat.mul_one] at h3
          rw [h1, h3, Nat.mul_comm Q b]
          exact ⟨by rw [Nat.mul_add_div (by omega), Nat.div_eq_of_lt h2, Nat.add_zero], by rw [Nat.mul_add_mod, Nat.mod_eq_of_lt h2]⟩
        have HT := Lib.hid (refTrim_mag (c := N) wr hrd hqw (Nat.le_refl _) (by omega))
        rw [hqe.1] at HT
        have HRE := Lib.hid hqe.2
        clear hqe hrd
        go_wp2_with fail
        refine HT.out.mono ?_
        rintro e w6 ⟨m6, rfl, r6, hm6, rfl⟩
        go_wp2
        go_ret2
        exact ⟨_, m6, N, A3, n3, c3, rfl, r6, by rw [← HRE.out]; exact r3, by omega, by omega, x1, x2, hbw⟩
      · obtain ⟨i, rfl⟩ : ∃ j, i = j + 1 := ⟨i - 1, by omega⟩
        have hDe : D = b * 2 ^ i := HDI.out (by omega)
        have HDE := Lib.hid hDe
        have e1 : (((i + 1 : Nat) : Int) - 1) = (i : Int) := by omega
        rw [e1]
        clear e1 hi0 hDe HDI
        have HC := Lib.hid (compareDigits_any wr r3 r4 (digits_w32 _) (digits_w32 _) x1 x2 x3 x4)
        rw [val_digits, val_digits] at HC
        by_cases hDr : D ≤ r
        · have hge : 0 ≤ cmp3 r D := cmp3_ge hDr
          obtain ⟨y1, y2⟩ := div_yes HA.out HRB.out HDE.out hDr
          have Y1 := Lib.hid y1
          have Y2 := Lib.hid y2
          have hk0 : i / 32 < N := by rw [← HN.out]; have : i / 32 ≤ k / 32 := Nat.div_le_div_right (by omega); omega
          obtain ⟨z, hz, ez, hzl, hzv⟩ := bit_set (i := i) hqw HQV.out (by rw [HQL.out]; exact hk0)
          have hz' : qs.getD (i / 32) 0 = z := hz.symm
          have ht : i % 32 < 32 := Nat.mod_lt _ (by omega)
          have hp2 : 2 ^ (i % 32) ≤ 2147483648 := Nat.pow_le_pow_right (by omega) (show i % 32 ≤ 31 by omega)
          have HZV := Lib.hid hzv
          have HLS : Hid ((digits (r - D)).length ≤ (digits a).length) := digits_len_mono (by omega)
          have hnn : n4 ≤ n3 := by rw [← r3.len, ← r4.len]; exact digits_len_mono hDr
          have HSB := Lib.hid (fun W h h' => subDigits_new (c := c3) (c' := c4) (A := A3) (A' := A4) (n := n3) (n' := n4) (xs := digits r) (ys := digits D) W h h' (digits_w32 r) (digits_w32 D) (by omega) hnn (by rw [val_digits, val_digits]; exact hDr))
          simp only [val_digits] at HSB
          have q1 : (i : Int).tdiv 32 = ((i / 32 : Nat) : Int) := by rw [Int.tdiv_eq_ediv_of_nonneg (by omega)]; omega
          have q2 : (i : Int) / 32 = ((i / 32 : Nat) : Int) := by omega
          have q3 : (i : Int).tmod 32 = ((i % 32 : Nat) : Int) := by rw [Int.tmod_eq_emod_of_nonneg (by omega)]; omega
          have q4 : (i : Int) % 32 = ((i % 32 : Nat) : Int) := by omega
          have ep : IntKind.u32.wrap ((2 : Int) ^ (i % 32)) = ((2 ^ (i % 32) : Nat) : Int) := by
            rw [show ((2 : Int) ^ (i % 32)) = ((2 ^ (i % 32) : Nat) : Int) by simp]; exact wrap_small _ hp2
          clear y1 y2 hz hzv
          generalize cmp3 r D = cp at *
          have hcd : decide (0 ≤ cp) = true := by simp; omega
          have hcd' : decide (cp ≥ 0) = true := by simp; omega
          clear hge
          generalize i / 32 = k0 at *
          generalize 2 ^ (i % 32) = P2 at *
          generalize i % 32 = t at *
          go_wp2_with fail
          refine HC.out.mono ?_
          rintro e w6 ⟨rfl, hq6⟩
          have d6 := qbelow hq6
          clear hq6 HC
          go_wp2_with fail
          refine (HSB.out _ (r3.call d6) (r4.call d6)).mono ?_
          rintro e w7 ⟨A7, n7, c7, rfl, r7, x7, x7', d7, e7⟩
          have E7 := Lib.hid e7
          clear e7 HSB
          have hB7 := (hB.call d6).call d7
          have hl7 := hB7.cell (i := k0) (by rw [HQL.out]; exact hk0)
          have hf7 := hB7.frozen k0
          rw [hz'] at hl7
          have HZ' := Lib.hid hz'
          have j1 : (0 : Int) ≤ (k0 : Int) := by omega
          have j2 : (k0 : Int) < (N : Int) := by omega
          clear hz'
          have of7 : Off g A7 n7 := off_new E7.out (Nat.lt_of_lt_of_le hB.lt d6.size)
          have hB8 := hB7.setZ k0 (show ((z : Int) + (P2 : Int)) = ((z + P2 : Nat) : Int) by omega)
          have r8 := (r7.setFar (i := k0) of7 (.int .u32 ((z : Int) + (P2 : Int)))).more (B' := (w7.setCell ⟨g, k0, none⟩ (.int .u32 ((z : Int) + (P2 : Int)))).heap.size) (by rw [size_set]; exact Nat.le_refl _)
          have r9 := (((r4.call d6).call d7).setFar (i := k0) of4 (.int .u32 ((z : Int) + (P2 : Int)))).more (B' := (w7.setCell ⟨g, k0, none⟩ (.int .u32 ((z : Int) + (P2 : Int)))).heap.size) (by rw [size_set]; exact Nat.le_refl _)
          have b8 := (bthen (bthen hbw d6) d7).setCell (p := ⟨g, k0, none⟩) hgw (.int .u32 ((z : Int) + (P2 : Int)))
          have hg8 : g < (w7.setCell ⟨g, k0, none⟩ (.int .u32 ((z : Int) + (P2 : Int)))).heap.size := hB8.lt
          have HH := Lib.hid (refHalf_new (c := c4) _ r9 (digits_w32 D) (by omega))
          rw [val_digits] at HH
          go_wp2_with fail
          refine HH.out.mono ?_
          rintro e w9 ⟨A9, n9, c9, rfl, r9', x9, x9', d9, e9⟩
          have E9 := Lib.hid e9
          clear e9 HH
          go_wp2
          go_roundg i
          case rel =>
            refine ⟨by go_num, by omega, ?_⟩
            refine ⟨r - D, D / 2, 2 * Q + 1, qs.set k0 (z + P2), A7, A9, n7, n9, c7, c9, rfl, rfl, r8.call d9, r9', of7, off_new E9.out hg8, x7, x7', x9, x9', by omega, ?_, Y1.out, Y2.out, ?_, hB8.call d9, by rw [List.length_set]; exact HQL.out, hqw.set _ hzl, HZV.out, bthen b8 d9, hgw⟩
            · exact Nat.le_trans (digits_len_mono (Nat.div_le_self _ _)) hDl
            · intro h; rw [HDE.out]; exact half_pow h
          case measure => omega
        · have hge : cmp3 r D = -1 := cmp3_lt (by omega)
          rw [hge] at HC
          obtain ⟨y1, y2⟩ := div_no HA.out HDE.out (by omega)
          have Y1 := Lib.hid y1
          have Y2 := Lib.hid y2
          clear y1 y2 hge
          go_wp2_with fail
          refine HC.out.mono ?_
          rintro e w6 ⟨rfl, hq6⟩
          have d6 := qbelow hq6
          clear hq6 HC
          have HH := Lib.hid (refHalf_new (c := c4) w6 (r4.call d6) (digits_w32 D) (by omega))
          rw [val_digits] at HH
          go_wp2_with fail
          refine HH.out.mono ?_
          rintro e w7 ⟨A7, n7, c7, rfl, r7, x7, x7', d7, e7⟩
          have E7 := Lib.hid e7
          clear e7 HH
          go_wp2
          go_roundg i
          case rel =>
            refine ⟨by go_num, by omega, ?_⟩
            refine ⟨r, D / 2, 2 * Q, qs, A3, A7, n3, n7, c3, c7, rfl, rfl, (r3.call d6).call d7, r7, of3, off_new E7.out (Nat.lt_of_lt_of_le hB.lt d6.size), x1, x2, x7, x7', hra, ?_, Y1.out, Y2.out, ?_, (hB.call d6).call d7, HQL.out, hqw, ?_, bthen (bthen hbw d6) d7, hgw⟩
            · exact Nat.le_trans (digits_len_mono (Nat.div_le_self _ _)) hDl
            · intro h; rw [HDE.out]; exact half_pow h
            · rw [HQV.out, Nat.pow_succ, Nat.mul_comm 2 Q, Nat.mul_assoc, Nat.mul_comm 2 (2 ^ i)]
          case measure => omega
end Go.Proofs.YtociocengfjioaaGreatDoor
