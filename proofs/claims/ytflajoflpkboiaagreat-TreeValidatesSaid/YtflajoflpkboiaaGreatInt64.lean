/- Walks of ToInt64, of the program and of the reference. -/
import Derived.Test.YtflajoflpkboiaaGreatRefH
namespace Go.Proofs.YtflajoflpkboiaaGreat
open Go.RowKit
set_option linter.unusedVariables false

def inR (z : Int) : Bool := decide (-9223372036854775808 ≤ z) && decide (z ≤ 9223372036854775807)
def to64 (z : Int) : Int := if inR z then z else 0
def cd64 (z : Int) : Int := if inR z then 0 else 5
theorem to64_in {z : Int} (h : inR z = true) : to64 z = z ∧ cd64 z = 0 := by unfold to64 cd64; rw [if_pos h, if_pos h]; exact ⟨rfl, rfl⟩
theorem to64_out {z : Int} (h : inR z = false) : to64 z = 0 ∧ cd64 z = 5 := by unfold to64 cd64; rw [h]; exact ⟨rfl, rfl⟩
theorem inR_pos (v : Nat) : inR (v : Int) = decide ((v : Int) < 9223372036854775808) := by unfold inR; rw [Bool.eq_iff_iff]; simp <;> omega
theorem inR_neg (v : Nat) : inR (-(v : Int)) = decide ((v : Int) ≤ 9223372036854775808) := by unfold inR; rw [Bool.eq_iff_iff]; simp <;> omega
theorem back_neg {v : Nat} (h : inR (-(v : Int)) = true) : IntKind.i64.wrap (IntKind.u64.wrap (-(v : Int))) = -(v : Int) := by
 rw [inR_neg] at h
 simp at h
 rw [IntKind.wrap_i64, IntKind.wrap_u64]
 omega
theorem back_pos {v : Nat} (h : inR (v : Int) = true) : IntKind.i64.wrap (v : Int) = (v : Int) := by
 rw [inR_pos] at h
 simp at h
 rw [IntKind.wrap_i64]
 omega
theorem big_out {z : Int} {m : Nat} (h : (digits z.natAbs).length = m) (hm : 2 < m) : inR z = false := by
 have h0 : z.natAbs ≠ 0 := fun e => by rw [e, digits_zero] at h; simp at h; omega
 have h1 := digits_ge h0
 rw [h] at h1
 have h2 : 4294967296 ^ 2 ≤ 4294967296 ^ (m - 1) := Nat.pow_le_pow_right (by omega) (by omega)
 have h3 : 18446744073709551616 ≤ z.natAbs := Nat.le_trans h2 h1
 unfold inR
 rw [Bool.and_eq_false_iff]
 simp
 omega
theorem small_lt {v m : Nat} (h : (digits v).length = m) (hm : m ≤ 2) : v < 18446744073709551616 := by
 have h1 := digits_lt v
 rw [h] at h1
 exact Nat.lt_of_lt_of_le h1 (Nat.le_trans (Nat.pow_le_pow_right (by omega) hm) (by decide))

theorem ret_tup {v c v' c' : Int} (h : v = v') (h' : c = c') : Ending.returned (.tuple #[.int .i64 v, .int .i64 c]) = .returned (.tuple #[.int .i64 v', .int .i64 c']) := by rw [h, h']

set_option maxHeartbeats 1000000 in
set_option maxRecDepth 100000 in
theorem toInt64_any {s : Bool} {A : Option Addr} {n c : Nat} {z : Int} (w : World) (ha : AInt w s A n c z) :
  Calls Tryz.prog 76 #[.agg #[.bool s, .slice A n c]] w (RetV w (.tuple #[.int .i64 (to64 z), .int .i64 (cd64 z)])) := by
 have hz := ha.sign_eq
 obtain ⟨m, hm, r, HA⟩ := ha.still
 obtain ⟨W, hW⟩ : ∃ W, W = w.alloc (.cells #[.bool s, .slice A n c] 29) := ⟨_, rfl⟩
 have bW : Below w.heap.size w W := by rw [hW]; exact bone w _
 have pa : Pr W w.heap.size s A n c := by rw [hW]; exact Pr.new w s A n c
 have a0 := pa.cell0
 have a1 := pa.cell1
 have HT := Lib.hid (HA.out W bW)
 have hrW := r.call bW
 have HZ := Lib.hid hz
 have HB := Lib.hid (big_out r.len)
 have HSM := Lib.hid (small_lt r.len)
 clear hz HA r
 generalize z.natAbs = v at *
 obtain ⟨rv, hrv⟩ : ∃ rv, rv = to64 z := ⟨_, rfl⟩
 obtain ⟨rc, hrc⟩ : ∃ rc, rc = cd64 z := ⟨_, rfl⟩
 rw [← hrv, ← hrc]
 have HRV := Lib.hid hrv
 have HRC := Lib.hid hrc
 clear hrv hrc
 by_cases h2 : 2 < m
 ·have hd : decide ((2 : Int) < (m : Int)) = true := by simp; omega
  have HO := Lib.hid (to64_out (HB.out h2))
  go_enter Tryz.func76, Tryz.ntmps76
  go_wp2_with fail
  rw [← hW]
  clear hW
  refine HT.out.mono ?_
  rintro e w1 ⟨rfl, rfl⟩
  go_wp2
  go_ret2
  exact ⟨ret_tup (by rw [HRV.out, HO.out.1]) (by rw [HRC.out, HO.out.2]), bW⟩
 ·have hd : decide ((2 : Int) < (m : Int)) = false := by simp; omega
  have HTW := Lib.hid (toWord_any (c := m) W hrW (HSM.out (by omega)))
  cases hin : inR z with
  | true =>
   have HO := Lib.hid (to64_in hin)
   cases s
   ·have hzv : z = (v : Int) := HZ.out
    rw [hzv] at hin
    have HBK := Lib.hid (back_pos hin)
    have ht : decide ((v : Int) < 9223372036854775808) = true := by rw [← inR_pos]; exact hin
    have HZV := Lib.hid hzv
    clear hin hzv
    go_enter Tryz.func76, Tryz.ntmps76
    go_wp2_with fail
    rw [← hW]
    clear hW
    refine HT.out.mono ?_
    rintro e w1 ⟨rfl, rfl⟩
    go_wp2_with fail
    refine HTW.out.mono ?_
    rintro e w2 ⟨rfl, hq⟩
    have d2 := qbelow hq
    obtain ⟨a0, a1⟩ := (pa.call d2).cells1
    clear hq HTW HT
    have hbk := HBK.out
    go_wp2
    go_ret2
    exact ⟨ret_tup (by rw [HRV.out, HO.out.1, HZV.out]) (by rw [HRC.out, HO.out.2]), bthen bW d2⟩
   ·have hzv : z = -(v : Int) := HZ.out
    rw [hzv] at hin
    have HBK := Lib.hid (back_neg hin)
    have ht : decide ((v : Int) ≤ 9223372036854775808) = true := by rw [← inR_neg]; exact hin
    have HZV := Lib.hid hzv
    clear hin hzv
    go_enter Tryz.func76, Tryz.ntmps76
    go_wp2_with fail
    rw [← hW]
    clear hW
    refine HT.out.mono ?_
    rintro e w1 ⟨rfl, rfl⟩
    go_wp2_with fail
    refine HTW.out.mono ?_
    rintro e w2 ⟨rfl, hq⟩
    have d2 := qbelow hq
    obtain ⟨a0, a1⟩ := (pa.call d2).cells1
    clear hq HTW HT
    have hbk := HBK.out
    go_wp2
    go_ret2
    exact ⟨ret_tup (by rw [HRV.out, HO.out.1, HZV.out]) (by rw [HRC.out, HO.out.2]), bthen bW d2⟩
  | false =>
   have HO := Lib.hid (to64_out hin)
   cases s
   ·have hzv : z = (v : Int) := HZ.out
    rw [hzv] at hin
    have ht : decide ((v : Int) < 9223372036854775808) = false := by rw [← inR_pos]; exact hin
    clear hin hzv
    go_enter Tryz.func76, Tryz.ntmps76
    go_wp2_with fail
    rw [← hW]
    clear hW
    refine HT.out.mono ?_
    rintro e w1 ⟨rfl, rfl⟩
    go_wp2_with fail
    refine HTW.out.mono ?_
    rintro e w2 ⟨rfl, hq⟩
    have d2 := qbelow hq
    obtain ⟨a0, a1⟩ := (pa.call d2).cells1
    clear hq HTW HT
    go_wp2
    go_ret2
    exact ⟨ret_tup (by rw [HRV.out, HO.out.1]) (by rw [HRC.out, HO.out.2]), bthen bW d2⟩
   ·have hzv : z = -(v : Int) := HZ.out
    rw [hzv] at hin
    have ht : decide ((v : Int) ≤ 9223372036854775808) = false := by rw [← inR_neg]; exact hin
    clear hin hzv
    go_enter Tryz.func76, Tryz.ntmps76
    go_wp2_with fail
    rw [← hW]
    clear hW
    refine HT.out.mono ?_
    rintro e w1 ⟨rfl, rfl⟩
    go_wp2_with fail
    refine HTW.out.mono ?_
    rintro e w2 ⟨rfl, hq⟩
    have d2 := qbelow hq
    obtain ⟨a0, a1⟩ := (pa.call d2).cells1
    clear hq HTW HT
    go_wp2
    go_ret2
    exact ⟨ret_tup (by rw [HRV.out, HO.out.1]) (by rw [HRC.out, HO.out.2]), bthen bW d2⟩

theorem two_digits64 {v m : Nat} (h : (digits v).length = m) (hm : m ≤ 2) : v = (digits v).getD 0 0 + 4294967296 * (digits v).getD 1 0 ∧ (digits v).getD 0 0 < 4294967296 ∧ (digits v).getD 1 0 < 4294967296 := by
 refine ⟨?_, (digits_w32 v).getD 0, (digits_w32 v).getD 1⟩
 have hv := val_digits v
 generalize digits v = ds at *
 match ds, h with
 | [], _ => simp [val] at hv ⊢; omega
 | [a], _ => simp [val] at hv ⊢; omega
 | [a, b], _ => simp [val] at hv ⊢; omega
 | a :: b :: c :: r, h => simp at h; omega

set_option maxHeartbeats 2000000 in
set_option maxRecDepth 100000 in
theorem refToInt64_any {s : Bool} {A : Option Addr} {n c : Nat} {z : Int} (w : World) (ha : AInt w s A n c z) (hn : n ≤ 1099511627776) :
  Calls Tryz.prog 62 #[.agg #[.bool s, .slice A n c]] w (RetV w (.tuple #[.int .i64 (to64 z), .int .i64 (cd64 z)])) := by
 obtain ⟨W, hW⟩ : ∃ W, W = w.alloc (.cells #[.bool s, .slice A n c] 29) := ⟨_, rfl⟩
 have bW : Below w.heap.size w W := by rw [hW]; exact bone w _
 have pa : Pr W w.heap.size s A n c := by rw [hW]; exact Pr.new w s A n c
 have a0 := pa.cell0
 have a1 := pa.cell1
 have HC := Lib.hid (canon_any W (ha.call bW) hn)
 obtain ⟨rv, hrv⟩ : ∃ rv, rv = to64 z := ⟨_, rfl⟩
 obtain ⟨rc, hrc⟩ : ∃ rc, rc = cd64 z := ⟨_, rfl⟩
 rw [← hrv, ← hrc]
 have HRV := Lib.hid hrv
 have HRC := Lib.hid hrc
 clear hrv hrc ha
 go_enter Tryz.func62, Tryz.ntmps62
 go_wp2_with fail
 rw [← hW]
 clear hW
 go_wp2_with fail
 refine HC.out.mono ?_
 rintro e w1 ⟨s1, A1, n1, c1, rfl, i1, d1⟩
 have p1 := pa.call d1
 obtain ⟨q0, q1, f0, f1, k0, k1⟩ := p1.all (.bool s1) (.slice A1 n1 c1)
 have hW := below_stored (bthen bW d1) (Nat.le_refl w.heap.size) (.bool s1) (.slice A1 n1 c1)
 have i2 := i1.stored p1 (.bool s1) (.slice A1 n1 c1)
 have p2 := p1.stored (s' := s1) (A' := A1) (n' := n1) (c' := c1)
 clear HC a0 a1 pa bW d1 i1
 go_upto_region 2 with (fail)
 clear q0 q1 f0 f1 k0 k1 p1
 generalize (w1.setCell ⟨w.heap.size, 0, none⟩ (.bool s1)).setCell ⟨w.heap.size, 1, none⟩ (.slice A1 n1 c1) = X at *
 obtain ⟨a0, a1⟩ := p2.cells1
 have hz := i2.any.sign_eq
 have HZ := Lib.hid hz
 have hlen := i2.1.len
 have hnb : n1 ≤ 9223372036854775807 := Nat.le_trans i2.2.2.1 i2.2.2.2
 have r2 := i2.1
 clear hz
 have HB := Lib.hid (big_out hlen)
 have HSM := Lib.hid (two_digits64 hlen)
 have HW32 := Lib.hid (digits_w32 z.natAbs)
 clear hlen
 generalize z.natAbs = v at *
 by_cases h2 : 2 < n1
 ·have hd : decide ((2 : Int) < (n1 : Int)) = true := by simp; omega
  have HO := Lib.hid (to64_out (HB.out h2))
  go_wp2
  go_ret2
  exact ⟨ret_tup (by rw [HRV.out, HO.out.1]) (by rw [HRC.out, HO.out.2]), hW⟩
 ·have hd : decide ((2 : Int) < (n1 : Int)) = false := by simp; omega
  obtain ⟨ev, hlo, hhi⟩ := HSM.out (by omega)
  have D0 : Hid (∀ W, Rd .u32 W W.heap.size A1 n1 (digits v) → Calls Tryz.prog 89 #[.slice A1 n1 c1, .int .i64 0] W (RetW W (.int .u64 ((digits v).getD 0 0 : Nat)))) := fun W h => digit_any (i := 0) W h HW32.out hnb
  have D1 : Hid (∀ W, Rd .u32 W W.heap.size A1 n1 (digits v) → Calls Tryz.prog 89 #[.slice A1 n1 c1, .int .i64 1] W (RetW W (.int .u64 ((digits v).getD 1 0 : Nat)))) := fun W h => digit_any (i := 1) W h HW32.out hnb
  have ej := u64_join' ((digits v).getD 0 0) ((digits v).getD 1 0) hlo hhi
  rw [← ev] at ej
  clear ev HSM
  generalize (digits v).getD 0 0 = lo at *
  generalize (digits v).getD 1 0 = hi at *
  clear a0 a1
  cases hin : inR z with
  | true =>
   have HO := Lib.hid (to64_in hin)
   cases s1
   ·have hzv : z = (v : Int) := HZ.out
    rw [hzv] at hin
    have HBK := Lib.hid (back_pos hin)
    have HZV := Lib.hid hzv
    have ht : decide ((v : Int) < 9223372036854775808) = true := by rw [← inR_pos]; exact hin
    clear hin hzv
    obtain ⟨a0, a1⟩ := p2.cells1
    go_wp2_with fail
    clear a0 a1
    have d0 := bdrew X
    (replace r2 := r2.call d0); (replace p2 := p2.call d0)
    replace hW := bthen hW d0
    clear d0
    refine wp_region_held_drew (S := fun w' => Below w.heap.size w w' ∧ Pr w' (w.heap.size) false A1 n1 c1) (by kernel_rfl) ⟨hW, p2⟩ (fun _ => ?_)
    generalize X.drew = u0 at *
    refine wpAnyH_take (i := 0) (oi := ⟨_, _, _, _, _, _⟩) (v := ?_) rfl (by kernel_rfl) (by kernel_rfl) (by kernel_rfl) (fun _ _ _ h => h) (Or.inl ⟨by rfl, ?_⟩) ⟨hW, p2⟩ ?_
    rotate_left
    ·intro w' hS'; (first | (go_simp; done) | (go_simp; with_reducible rfl) | with_reducible rfl)
    (try simp only [Act.put, List.setIfInBounds_toArray, List.set_cons_zero, List.set_cons_succ])
    refine wpAnyH_take (i := 1) (oi := ⟨_, _, _, _, _, _⟩) (v := ?_) rfl (by kernel_rfl) (by kernel_rfl) (by kernel_rfl) (fun _ _ _ h => h) (Or.inl ⟨by rfl, ?_⟩) ⟨hW, p2⟩ ?_
    rotate_left
    ·intro w' hS'; obtain ⟨_, q_p2⟩ := hS'; have c0 := q_p2.cell0; have c1 := q_p2.cell1; (first | (go_simp; done) | (go_simp; with_reducible rfl) | with_reducible rfl)
    (try simp only [Act.put, List.setIfInBounds_toArray, List.set_cons_zero, List.set_cons_succ])
    refine wpAnyH_take (i := 3) (oi := ⟨_, _, _, _, _, _⟩) (v := ?_) rfl (by kernel_rfl) (by kernel_rfl) (by kernel_rfl) (fun _ _ _ h => h) (Or.inl ⟨by rfl, ?_⟩) ⟨hW, p2⟩ ?_
    rotate_left
    ·intro w' hS'; (first | (go_simp; done) | (go_simp; with_reducible rfl) | with_reducible rfl)
    (try simp only [Act.put, List.setIfInBounds_toArray, List.set_cons_zero, List.set_cons_succ])
    refine wpAnyH_take (i := 4) (oi := ⟨_, _, _, _, _, _⟩) (v := ?_) rfl (by kernel_rfl) (by kernel_rfl) (by kernel_rfl) (fun _ _ _ h => h) (Or.inl ⟨by rfl, ?_⟩) ⟨hW, p2⟩ ?_
    rotate_left
    ·intro w' hS'; obtain ⟨_, q_p2⟩ := hS'; have c0 := q_p2.cell0; have c1 := q_p2.cell1; (first | (go_simp; done) | (go_simp; with_reducible rfl) | with_reducible rfl)
    (try simp only [Act.put, List.setIfInBounds_toArray, List.set_cons_zero, List.set_cons_succ])
    refine wpAnyH_ready (rs := [2]) (by kernel_rfl) (by simp) ?_
    refine AllReadyH.cons (o := ⟨_, _, _, _, _, _⟩) rfl (fun K hK => ?_) AllReadyH.nil
    go_simp
    refine (D0.out _ r2).mono ?_
    rintro e u1 ⟨rfl, rfl⟩
    first | (with_reducible refine hK.out _ _ ⟨hW, p2⟩ (fun _ => ?_)) | (go_wp2_with fail; with_reducible refine hK.out _ _ ⟨hW, p2⟩ (fun _ => ?_))
    clear hK K
    (try simp only [Act.put, List.setIfInBounds_toArray, List.set_cons_zero, List.set_cons_succ])
    refine wpAnyH_ready (rs := [5]) (by kernel_rfl) (by simp) ?_
    refine AllReadyH.cons (o := ⟨_, _, _, _, _, _⟩) rfl (fun K hK => ?_) AllReadyH.nil
    go_simp
    refine (D1.out _ r2).mono ?_
    rintro e u2 ⟨rfl, rfl⟩
    first | (with_reducible refine hK.out _ _ ⟨hW, p2⟩ (fun _ => ?_)) | (go_wp2_with fail; with_reducible refine hK.out _ _ ⟨hW, p2⟩ (fun _ => ?_))
    clear hK K
    (try simp only [Act.put, List.setIfInBounds_toArray, List.set_cons_zero, List.set_cons_succ])
    refine wpAnyH_take (i := 6) (oi := ⟨_, _, _, _, _, _⟩) (v := ?_) rfl (by kernel_rfl) (by kernel_rfl) (by kernel_rfl) (fun _ _ _ h => h) (Or.inl ⟨by rfl, ?_⟩) ⟨hW, p2⟩ ?_
    rotate_left
    ·intro w' hS'; (first | (go_simp; done) | (go_simp; with_reducible rfl) | with_reducible rfl)
    (try simp only [Act.put, List.setIfInBounds_toArray, List.set_cons_zero, List.set_cons_succ])
    refine wpAnyH_take (i := 7) (oi := ⟨_, _, _, _, _, _⟩) (v := ?_) rfl (by kernel_rfl) (by kernel_rfl) (by kernel_rfl) (fun _ _ _ h => h) (Or.inl ⟨by rfl, ?_⟩) ⟨hW, p2⟩ ?_
    rotate_left
    ·intro w' hS'; (first | (go_simp; done) | (go_simp; with_reducible rfl) | with_reducible rfl)
    (try simp only [Act.put, List.setIfInBounds_toArray, List.set_cons_zero, List.set_cons_succ])
    refine wpAnyH_take (i := 8) (oi := ⟨_, _, _, _, _, _⟩) (v := ?_) rfl (by kernel_rfl) (by kernel_rfl) (by kernel_rfl) (fun _ _ _ h => h) (Or.inl ⟨by rfl, ?_⟩) ⟨hW, p2⟩ ?_
    rotate_left
    ·intro w' hS'; (first | (go_simp; done) | (go_simp; with_reducible rfl) | with_reducible rfl)
    (try simp only [Act.put, List.setIfInBounds_toArray, List.set_cons_zero, List.set_cons_succ])
    refine wpAnyH_done (by kernel_rfl) ?_ _
    skip
    obtain ⟨a0, a1⟩ := p2.cells1
    have hbk := HBK.out
    go_wp2
    go_ret2
    exact ⟨ret_tup (by rw [HRV.out, HO.out.1, HZV.out]; (try rw [ej]); (try (have ht' := ht; simp at ht'; simp only [wrap64]; omega))) (by rw [HRC.out, HO.out.2]), hW⟩
   ·have hzv : z = -(v : Int) := HZ.out
    rw [hzv] at hin
    have HBK := Lib.hid (back_neg hin)
    have HZV := Lib.hid hzv
    have ht : decide ((v : Int) ≤ 9223372036854775808) = true := by rw [← inR_neg]; exact hin
    clear hin hzv
    obtain ⟨a0, a1⟩ := p2.cells1
    go_wp2_with fail
    clear a0 a1
    have d0 := bdrew X
    (replace r2 := r2.call d0); (replace p2 := p2.call d0)
    replace hW := bthen hW d0
    clear d0
    refine wp_region_held_drew (S := fun w' => Below w.heap.size w w' ∧ Pr w' (w.heap.size) true A1 n1 c1) (by kernel_rfl) ⟨hW, p2⟩ (fun _ => ?_)
    generalize X.drew = u0 at *
    refine wpAnyH_take (i := 0) (oi := ⟨_, _, _, _, _, _⟩) (v := ?_) rfl (by kernel_rfl) (by kernel_rfl) (by kernel_rfl) (fun _ _ _ h => h) (Or.inl ⟨by rfl, ?_⟩) ⟨hW, p2⟩ ?_
    rotate_left
    ·intro w' hS'; (first | (go_simp; done) | (go_simp; with_reducible rfl) | with_reducible rfl)
    (try simp only [Act.put, List.setIfInBounds_toArray, List.set_cons_zero, List.set_cons_succ])
    refine wpAnyH_take (i := 1) (oi := ⟨_, _, _, _, _, _⟩) (v := ?_) rfl (by kernel_rfl) (by kernel_rfl) (by kernel_rfl) (fun _ _ _ h => h) (Or.inl ⟨by rfl, ?_⟩) ⟨hW, p2⟩ ?_
    rotate_left
    ·intro w' hS'; obtain ⟨_, q_p2⟩ := hS'; have c0 := q_p2.cell0; have c1 := q_p2.cell1; (first | (go_simp; done) | (go_simp; with_reducible rfl) | with_reducible rfl)
    (try simp only [Act.put, List.setIfInBounds_toArray, List.set_cons_zero, List.set_cons_succ])
    refine wpAnyH_take (i := 3) (oi := ⟨_, _, _, _, _, _⟩) (v := ?_) rfl (by kernel_rfl) (by kernel_rfl) (by kernel_rfl) (fun _ _ _ h => h) (Or.inl ⟨by rfl, ?_⟩) ⟨hW, p2⟩ ?_
    rotate_left
    ·intro w' hS'; (first | (go_simp; done) | (go_simp; with_reducible rfl) | with_reducible rfl)
    (try simp only [Act.put, List.setIfInBounds_toArray, List.set_cons_zero, List.set_cons_succ])
    refine wpAnyH_take (i := 4) (oi := ⟨_, _, _, _, _, _⟩) (v := ?_) rfl (by kernel_rfl) (by kernel_rfl) (by kernel_rfl) (fun _ _ _ h => h) (Or.inl ⟨by rfl, ?_⟩) ⟨hW, p2⟩ ?_
    rotate_left
    ·intro w' hS'; obtain ⟨_, q_p2⟩ := hS'; have c0 := q_p2.cell0; have c1 := q_p2.cell1; (first | (go_simp; done) | (go_simp; with_reducible rfl) | with_reducible rfl)
    (try simp only [Act.put, List.setIfInBounds_toArray, List.set_cons_zero, List.set_cons_succ])
    refine wpAnyH_ready (rs := [2]) (by kernel_rfl) (by simp) ?_
    refine AllReadyH.cons (o := ⟨_, _, _, _, _, _⟩) rfl (fun K hK => ?_) AllReadyH.nil
    go_simp
    refine (D0.out _ r2).mono ?_
    rintro e u1 ⟨rfl, rfl⟩
    first | (with_reducible refine hK.out _ _ ⟨hW, p2⟩ (fun _ => ?_)) | (go_wp2_with fail; with_reducible refine hK.out _ _ ⟨hW, p2⟩ (fun _ => ?_))
    clear hK K
    (try simp only [Act.put, List.setIfInBounds_toArray, List.set_cons_zero, List.set_cons_succ])
    refine wpAnyH_ready (rs := [5]) (by kernel_rfl) (by simp) ?_
    refine AllReadyH.cons (o := ⟨_, _, _, _, _, _⟩) rfl (fun K hK => ?_) AllReadyH.nil
    go_simp
    refine (D1.out _ r2).mono ?_
    rintro e u2 ⟨rfl, rfl⟩
    first | (with_reducible refine hK.out _ _ ⟨hW, p2⟩ (fun _ => ?_)) | (go_wp2_with fail; with_reducible refine hK.out _ _ ⟨hW, p2⟩ (fun _ => ?_))
    clear hK K
    (try simp only [Act.put, List.setIfInBounds_toArray, List.set_cons_zero, List.set_cons_succ])
    refine wpAnyH_take (i := 6) (oi := ⟨_, _, _, _, _, _⟩) (v := ?_) rfl (by kernel_rfl) (by kernel_rfl) (by kernel_rfl) (fun _ _ _ h => h) (Or.inl ⟨by rfl, ?_⟩) ⟨hW, p2⟩ ?_
    rotate_left
    ·intro w' hS'; (first | (go_simp; done) | (go_simp; with_reducible rfl) | with_reducible rfl)
    (try simp only [Act.put, List.setIfInBounds_toArray, List.set_cons_zero, List.set_cons_succ])
    refine wpAnyH_take (i := 7) (oi := ⟨_, _, _, _, _, _⟩) (v := ?_) rfl (by kernel_rfl) (by kernel_rfl) (by kernel_rfl) (fun _ _ _ h => h) (Or.inl ⟨by rfl, ?_⟩) ⟨hW, p2⟩ ?_
    rotate_left
    ·intro w' hS'; (first | (go_simp; done) | (go_simp; with_reducible rfl) | with_reducible rfl)
    (try simp only [Act.put, List.setIfInBounds_toArray, List.set_cons_zero, List.set_cons_succ])
    refine wpAnyH_take (i := 8) (oi := ⟨_, _, _, _, _, _⟩) (v := ?_) rfl (by kernel_rfl) (by kernel_rfl) (by kernel_rfl) (fun _ _ _ h => h) (Or.inl ⟨by rfl, ?_⟩) ⟨hW, p2⟩ ?_
    rotate_left
    ·intro w' hS'; (first | (go_simp; done) | (go_simp; with_reducible rfl) | with_reducible rfl)
    (try simp only [Act.put, List.setIfInBounds_toArray, List.set_cons_zero, List.set_cons_succ])
    refine wpAnyH_done (by kernel_rfl) ?_ _
    skip
    obtain ⟨a0, a1⟩ := p2.cells1
    have hbk := HBK.out
    go_wp2
    go_ret2
    exact ⟨ret_tup (by rw [HRV.out, HO.out.1, HZV.out]; (try rw [ej]); (try (have ht' := ht; simp at ht'; simp only [wrap64]; omega))) (by rw [HRC.out, HO.out.2]), hW⟩
  | false =>
   have HO := Lib.hid (to64_out hin)
   cases s1
   ·have hzv : z = (v : Int) := HZ.out
    rw [hzv] at hin
    have ht : decide ((v : Int) < 9223372036854775808) = false := by rw [← inR_pos]; exact hin
    clear hin hzv
    obtain ⟨a0, a1⟩ := p2.cells1
    go_wp2_with fail
    clear a0 a1
    have d0 := bdrew X
    (replace r2 := r2.call d0); (replace p2 := p2.call d0)
    replace hW := bthen hW d0
    clear d0
    refine wp_region_held_drew (S := fun w' => Below w.heap.size w w' ∧ Pr w' (w.heap.size) false A1 n1 c1) (by kernel_rfl) ⟨hW, p2⟩ (fun _ => ?_)
    generalize X.drew = u0 at *
    refine wpAnyH_take (i := 0) (oi := ⟨_, _, _, _, _, _⟩) (v := ?_) rfl (by kernel_rfl) (by kernel_rfl) (by kernel_rfl) (fun _ _ _ h => h) (Or.inl ⟨by rfl, ?_⟩) ⟨hW, p2⟩ ?_
    rotate_left
    ·intro w' hS'; (first | (go_simp; done) | (go_simp; with_reducible rfl) | with_reducible rfl)
    (try simp only [Act.put, List.setIfInBounds_toArray, List.set_cons_zero, List.set_cons_succ])
    refine wpAnyH_take (i := 1) (oi := ⟨_, _, _, _, _, _⟩) (v := ?_) rfl (by kernel_rfl) (by kernel_rfl) (by kernel_rfl) (fun _ _ _ h => h) (Or.inl ⟨by rfl, ?_⟩) ⟨hW, p2⟩ ?_
    rotate_left
    ·intro w' hS'; obtain ⟨_, q_p2⟩ := hS'; have c0 := q_p2.cell0; have c1 := q_p2.cell1; (first | (go_simp; done) | (go_simp; with_reducible rfl) | with_reducible rfl)
    (try simp only [Act.put, List.setIfInBounds_toArray, List.set_cons_zero, List.set_cons_succ])
    refine wpAnyH_take (i := 3) (oi := ⟨_, _, _, _, _, _⟩) (v := ?_) rfl (by kernel_rfl) (by kernel_rfl) (by kernel_rfl) (fun _ _ _ h => h) (Or.inl ⟨by rfl, ?_⟩) ⟨hW, p2⟩ ?_
    rotate_left
    ·intro w' hS'; (first | (go_simp; done) | (go_simp; with_reducible rfl) | with_reducible rfl)
    (try simp only [Act.put, List.setIfInBounds_toArray, List.set_cons_zero, List.set_cons_succ])
    refine wpAnyH_take (i := 4) (oi := ⟨_, _, _, _, _, _⟩) (v := ?_) rfl (by kernel_rfl) (by kernel_rfl) (by kernel_rfl) (fun _ _ _ h => h) (Or.inl ⟨by rfl, ?_⟩) ⟨hW, p2⟩ ?_
    rotate_left
    ·intro w' hS'; obtain ⟨_, q_p2⟩ := hS'; have c0 := q_p2.cell0; have c1 := q_p2.cell1; (first | (go_simp; done) | (go_simp; with_reducible rfl) | with_reducible rfl)
    (try simp only [Act.put, List.setIfInBounds_toArray, List.set_cons_zero, List.set_cons_succ])
    refine wpAnyH_ready (rs := [2]) (by kernel_rfl) (by simp) ?_
    refine AllReadyH.cons (o := ⟨_, _, _, _, _, _⟩) rfl (fun K hK => ?_) AllReadyH.nil
    go_simp
    refine (D0.out _ r2).mono ?_
    rintro e u1 ⟨rfl, rfl⟩
    first | (with_reducible refine hK.out _ _ ⟨hW, p2⟩ (fun _ => ?_)) | (go_wp2_with fail; with_reducible refine hK.out _ _ ⟨hW, p2⟩ (fun _ => ?_))
    clear hK K
    (try simp only [Act.put, List.setIfInBounds_toArray, List.set_cons_zero, List.set_cons_succ])
    refine wpAnyH_ready (rs := [5]) (by kernel_rfl) (by simp) ?_
    refine AllReadyH.cons (o := ⟨_, _, _, _, _, _⟩) rfl (fun K hK => ?_) AllReadyH.nil
    go_simp
    refine (D1.out _ r2).mono ?_
    rintro e u2 ⟨rfl, rfl⟩
    first | (with_reducible refine hK.out _ _ ⟨hW, p2⟩ (fun _ => ?_)) | (go_wp2_with fail; with_reducible refine hK.out _ _ ⟨hW, p2⟩ (fun _ => ?_))
    clear hK K
    (try simp only [Act.put, List.setIfInBounds_toArray, List.set_cons_zero, List.set_cons_succ])
    refine wpAnyH_take (i := 6) (oi := ⟨_, _, _, _, _, _⟩) (v := ?_) rfl (by kernel_rfl) (by kernel_rfl) (by kernel_rfl) (fun _ _ _ h => h) (Or.inl ⟨by rfl, ?_⟩) ⟨hW, p2⟩ ?_
    rotate_left
    ·intro w' hS'; (first | (go_simp; done) | (go_simp; with_reducible rfl) | with_reducible rfl)
    (try simp only [Act.put, List.setIfInBounds_toArray, List.set_cons_zero, List.set_cons_succ])
    refine wpAnyH_take (i := 7) (oi := ⟨_, _, _, _, _, _⟩) (v := ?_) rfl (by kernel_rfl) (by kernel_rfl) (by kernel_rfl) (fun _ _ _ h => h) (Or.inl ⟨by rfl, ?_⟩) ⟨hW, p2⟩ ?_
    rotate_left
    ·intro w' hS'; (first | (go_simp; done) | (go_simp; with_reducible rfl) | with_reducible rfl)
    (try simp only [Act.put, List.setIfInBounds_toArray, List.set_cons_zero, List.set_cons_succ])
    refine wpAnyH_take (i := 8) (oi := ⟨_, _, _, _, _, _⟩) (v := ?_) rfl (by kernel_rfl) (by kernel_rfl) (by kernel_rfl) (fun _ _ _ h => h) (Or.inl ⟨by rfl, ?_⟩) ⟨hW, p2⟩ ?_
    rotate_left
    ·intro w' hS'; (first | (go_simp; done) | (go_simp; with_reducible rfl) | with_reducible rfl)
    (try simp only [Act.put, List.setIfInBounds_toArray, List.set_cons_zero, List.set_cons_succ])
    refine wpAnyH_done (by kernel_rfl) ?_ _
    skip
    obtain ⟨a0, a1⟩ := p2.cells1
    go_wp2
    go_ret2
    exact ⟨ret_tup (by rw [HRV.out, HO.out.1]) (by rw [HRC.out, HO.out.2]), hW⟩
   ·have hzv : z = -(v : Int) := HZ.out
    rw [hzv] at hin
    have ht : decide ((v : Int) ≤ 9223372036854775808) = false := by rw [← inR_neg]; exact hin
    clear hin hzv
    obtain ⟨a0, a1⟩ := p2.cells1
    go_wp2_with fail
    clear a0 a1
    have d0 := bdrew X
    (replace r2 := r2.call d0); (replace p2 := p2.call d0)
    replace hW := bthen hW d0
    clear d0
    refine wp_region_held_drew (S := fun w' => Below w.heap.size w w' ∧ Pr w' (w.heap.size) true A1 n1 c1) (by kernel_rfl) ⟨hW, p2⟩ (fun _ => ?_)
    generalize X.drew = u0 at *
    refine wpAnyH_take (i := 0) (oi := ⟨_, _, _, _, _, _⟩) (v := ?_) rfl (by kernel_rfl) (by kernel_rfl) (by kernel_rfl) (fun _ _ _ h => h) (Or.inl ⟨by rfl, ?_⟩) ⟨hW, p2⟩ ?_
    rotate_left
    ·intro w' hS'; (first | (go_simp; done) | (go_simp; with_reducible rfl) | with_reducible rfl)
    (try simp only [Act.put, List.setIfInBounds_toArray, List.set_cons_zero, List.set_cons_succ])
    refine wpAnyH_take (i := 1) (oi := ⟨_, _, _, _, _, _⟩) (v := ?_) rfl (by kernel_rfl) (by kernel_rfl) (by kernel_rfl) (fun _ _ _ h => h) (Or.inl ⟨by rfl, ?_⟩) ⟨hW, p2⟩ ?_
    rotate_left
    ·intro w' hS'; obtain ⟨_, q_p2⟩ := hS'; have c0 := q_p2.cell0; have c1 := q_p2.cell1; (first | (go_simp; done) | (go_simp; with_reducible rfl) | with_reducible rfl)
    (try simp only [Act.put, List.setIfInBounds_toArray, List.set_cons_zero, List.set_cons_succ])
    refine wpAnyH_take (i := 3) (oi := ⟨_, _, _, _, _, _⟩) (v := ?_) rfl (by kernel_rfl) (by kernel_rfl) (by kernel_rfl) (fun _ _ _ h => h) (Or.inl ⟨by rfl, ?_⟩) ⟨hW, p2⟩ ?_
    rotate_left
    ·intro w' hS'; (first | (go_simp; done) | (go_simp; with_reducible rfl) | with_reducible rfl)
    (try simp only [Act.put, List.setIfInBounds_toArray, List.set_cons_zero, List.set_cons_succ])
    refine wpAnyH_take (i := 4) (oi := ⟨_, _, _, _, _, _⟩) (v := ?_) rfl (by kernel_rfl) (by kernel_rfl) (by kernel_rfl) (fun _ _ _ h => h) (Or.inl ⟨by rfl, ?_⟩) ⟨hW, p2⟩ ?_
    rotate_left
    ·intro w' hS'; obtain ⟨_, q_p2⟩ := hS'; have c0 := q_p2.cell0; have c1 := q_p2.cell1; (first | (go_simp; done) | (go_simp; with_reducible rfl) | with_reducible rfl)
    (try simp only [Act.put, List.setIfInBounds_toArray, List.set_cons_zero, List.set_cons_succ])
    refine wpAnyH_ready (rs := [2]) (by kernel_rfl) (by simp) ?_
    refine AllReadyH.cons (o := ⟨_, _, _, _, _, _⟩) rfl (fun K hK => ?_) AllReadyH.nil
    go_simp
    refine (D0.out _ r2).mono ?_
    rintro e u1 ⟨rfl, rfl⟩
    first | (with_reducible refine hK.out _ _ ⟨hW, p2⟩ (fun _ => ?_)) | (go_wp2_with fail; with_reducible refine hK.out _ _ ⟨hW, p2⟩ (fun _ => ?_))
    clear hK K
    (try simp only [Act.put, List.setIfInBounds_toArray, List.set_cons_zero, List.set_cons_succ])
    refine wpAnyH_ready (rs := [5]) (by kernel_rfl) (by simp) ?_
    refine AllReadyH.cons (o := ⟨_, _, _, _, _, _⟩) rfl (fun K hK => ?_) AllReadyH.nil
    go_simp
    refine (D1.out _ r2).mono ?_
    rintro e u2 ⟨rfl, rfl⟩
    first | (with_reducible refine hK.out _ _ ⟨hW, p2⟩ (fun _ => ?_)) | (go_wp2_with fail; with_reducible refine hK.out _ _ ⟨hW, p2⟩ (fun _ => ?_))
    clear hK K
    (try simp only [Act.put, List.setIfInBounds_toArray, List.set_cons_zero, List.set_cons_succ])
    refine wpAnyH_take (i := 6) (oi := ⟨_, _, _, _, _, _⟩) (v := ?_) rfl (by kernel_rfl) (by kernel_rfl) (by kernel_rfl) (fun _ _ _ h => h) (Or.inl ⟨by rfl, ?_⟩) ⟨hW, p2⟩ ?_
    rotate_left
    ·intro w' hS'; (first | (go_simp; done) | (go_simp; with_reducible rfl) | with_reducible rfl)
    (try simp only [Act.put, List.setIfInBounds_toArray, List.set_cons_zero, List.set_cons_succ])
    refine wpAnyH_take (i := 7) (oi := ⟨_, _, _, _, _, _⟩) (v := ?_) rfl (by kernel_rfl) (by kernel_rfl) (by kernel_rfl) (fun _ _ _ h => h) (Or.inl ⟨by rfl, ?_⟩) ⟨hW, p2⟩ ?_
    rotate_left
    ·intro w' hS'; (first | (go_simp; done) | (go_simp; with_reducible rfl) | with_reducible rfl)
    (try simp only [Act.put, List.setIfInBounds_toArray, List.set_cons_zero, List.set_cons_succ])
    refine wpAnyH_take (i := 8) (oi := ⟨_, _, _, _, _, _⟩) (v := ?_) rfl (by kernel_rfl) (by kernel_rfl) (by kernel_rfl) (fun _ _ _ h => h) (Or.inl ⟨by rfl, ?_⟩) ⟨hW, p2⟩ ?_
    rotate_left
    ·intro w' hS'; (first | (go_simp; done) | (go_simp; with_reducible rfl) | with_reducible rfl)
    (try simp only [Act.put, List.setIfInBounds_toArray, List.set_cons_zero, List.set_cons_succ])
    refine wpAnyH_done (by kernel_rfl) ?_ _
    skip
    obtain ⟨a0, a1⟩ := p2.cells1
    go_wp2
    go_ret2
    exact ⟨ret_tup (by rw [HRV.out, HO.out.1]) (by rw [HRC.out, HO.out.2]), hW⟩
end Go.Proofs.YtflajoflpkboiaaGreat
