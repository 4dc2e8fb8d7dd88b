/- Walks of ToInt64, of the program and of the reference. -/
import Derived.Test.YtflajoflpkboiaaRefH
namespace Go.Proofs.Ytflajoflpkboiaa
open Go.RowKit
set_option linter.unusedVariables false

def inR (z : Int) : Bool := decide (-9223372036854775808 ≤ z) && decide (z ≤ 9223372036854775807)
def to64 (z : Int) : Int := if inR z then z else 0
def cd64 (z : Int) : Int := if inR z then 0 else 5
theorem to64_in {z : Int} (h : inR z = true) : to64 z = z ∧ cd64 z = 0 := by unfold to64 cd64; rw [if_pos h, if_pos h]; exact ⟨rfl, rfl⟩
theorem to64_out {z : Int} (h : inR z = false) : to64 z = 0 ∧ cd64 z = 5 := by unfold to64 cd64; rw [h]; exact ⟨rfl, rfl⟩
theorem inR_pos (v : Nat) : inR (v : Int) = decide ((v : Int) < 9223372036854775808) := by unfold inR; rw [Bool.eq_iff_iff]; simp <;> omega
theorem inR_neg (v : Nat) : inR (-(v : Int)) = decide ((v : Int) ≤ 9223372036854775808) := by unfold inR; rw [Bool.eq_iff_iff]; simp <;> omega
theorem back_neg {v : Nat} (h : inR (-(v : Int)) = true) : IntKind.i64.wrap (IntKind.u64.wrap (-(v : Int))) = -(v : Int) := by
 rw [inR_neg] at h
 simp at h
 rw [IntKind.wrap_i64, IntKind.wrap_u64]
 omega
theorem back_pos {v : Nat} (h : inR (v : Int) = true) : IntKind.i64.wrap (v : Int) = (v : Int) := by
 rw [inR_pos] at h
 simp at h
 rw [IntKind.wrap_i64]
 omega
theorem big_out {z : Int} {m : Nat} (h : (digits z.natAbs).length = m) (hm : 2 < m) : inR z = false := by
 have h0 : z.natAbs ≠ 0 := fun e => by rw [e, digits_zero] at h; simp at h; omega
 have h1 := digits_ge h0
 rw [h] at h1
 have h2 : 4294967296 ^ 2 ≤ 4294967296 ^ (m - 1) := Nat.pow_le_pow_right (by omega) (by omega)
 have h3 : 18446744073709551616 ≤ z.natAbs := Nat.le_trans h2 h1
 unfold inR
 rw [Bool.and_eq_false_iff]
 simp
 omega
theorem small_lt {v m : Nat} (h : (digits v).length = m) (hm : m ≤ 2) : v < 18446744073709551616 := by
 have h1 := digits_lt v
 rw [h] at h1
 exact Nat.lt_of_lt_of_le h1 (Nat.le_trans (Nat.pow_le_pow_right (by omega) hm) (by decide))

theorem ret_tup {v c v' c' : Int} (h : v = v') (h' : c = c') : Ending.returned (.tuple #[.int .i64 v, .int .i64 c]) = .returned (.tuple #[.int .i64 v', .int .i64 c']) := by rw [h, h']

set_option maxHeartbeats 1000000 in
set_option maxRecDepth 100000 in
theorem toInt64_any {s : Bool} {A : Option Addr} {n c : Nat} {z : Int} (w : World) (ha : AInt w s A n c z) :
  Calls Try.prog 34 #[.agg #[.bool s, .slice A n c]] w (RetV w (.tuple #[.int .i64 (to64 z), .int .i64 (cd64 z)])) := by
 have hz := ha.sign_eq
 obtain ⟨m, hm, r, HA⟩ := ha.still
 obtain ⟨W, hW⟩ : ∃ W, W = w.alloc (.cells #[.bool s, .slice A n c] 28) := ⟨_, rfl⟩
 have bW : Below w.heap.size w W := by rw [hW]; exact bone w _
 have pa : Pr W w.heap.size s A n c := by rw [hW]; exact Pr.new w s A n c
 have a0 := pa.cell0
 have a1 := pa.cell1
 have HT := Lib.hid (HA.out W bW)
 have hrW := r.call bW
 have HZ := Lib.hid hz
 have HB := Lib.hid (big_out r.len)
 have HSM := Lib.hid (small_lt r.len)
 clear hz HA r
 generalize z.natAbs = v at *
 obtain ⟨rv, hrv⟩ : ∃ rv, rv = to64 z := ⟨_, rfl⟩
 obtain ⟨rc, hrc⟩ : ∃ rc, rc = cd64 z := ⟨_, rfl⟩
 rw [← hrv, ← hrc]
 have HRV := Lib.hid hrv
 have HRC := Lib.hid hrc
 clear hrv hrc
 by_cases h2 : 2 < m
 ·have hd : decide ((2 : Int) < (m : Int)) = true := by simp; omega
  have HO := Lib.hid (to64_out (HB.out h2))
  go_enter Try.func34, Try.ntmps34
  go_wp2_with fail
  rw [← hW]
  clear hW
  refine HT.out.mono ?_
  rintro e w1 ⟨rfl, rfl⟩
  go_wp2
  go_ret2
  exact ⟨ret_tup (by rw [HRV.out, HO.out.1]) (by rw [HRC.out, HO.out.2]), bW⟩
 ·have hd : decide ((2 : Int) < (m : Int)) = false := by simp; omega
  have HTW := Lib.hid (toWord_any (c := m) W hrW (HSM.out (by omega)))
  cases hin : inR z with
  | true =>
   have HO := Lib.hid (to64_in hin)
   cases s
   ·have hzv : z = (v : Int) := HZ.out
    rw [hzv] at hin
    have HBK := Lib.hid (back_pos hin)
    have ht : decide ((v : Int) < 9223372036854775808) = true := by rw [← inR_pos]; exact hin
    have HZV := Lib.hid hzv
    clear hin hzv
    go_enter Try.func34, Try.ntmps34
    go_wp2_with fail
    rw [← hW]
    clear hW
    refine HT.out.mono ?_
    rintro e w1 ⟨rfl, rfl⟩
    go_wp2_with fail
    refine HTW.out.mono ?_
    rintro e w2 ⟨rfl, hq⟩
    have d2 := qbelow hq
    obtain ⟨a0, a1⟩ := (pa.call d2).cells1
    clear hq HTW HT
    have hbk := HBK.out
    go_wp2
    go_ret2
    exact ⟨ret_tup (by rw [HRV.out, HO.out.1, HZV.out]) (by rw [HRC.out, HO.out.2]), bthen bW d2⟩
   ·have hzv : z = -(v : Int) := HZ.out
    rw [hzv] at hin
    have HBK := Lib.hid (back_neg hin)
    have ht : decide ((v : Int) ≤ 9223372036854775808) = true := by rw [← inR_neg]; exact hin
    have HZV := Lib.hid hzv
    clear hin hzv
    go_enter Try.func34, Try.ntmps34
    go_wp2_with fail
    rw [← hW]
    clear hW
    refine HT.out.mono ?_
    rintro e w1 ⟨rfl, rfl⟩
    go_wp2_with fail
    refine HTW.out.mono ?_
    rintro e w2 ⟨rfl, hq⟩
    have d2 := qbelow hq
    obtain ⟨a0, a1⟩ := (pa.call d2).cells1
    clear hq HTW HT
    have hbk := HBK.out
    go_wp2
    go_ret2
    exact ⟨ret_tup (by rw [HRV.out, HO.out.1, HZV.out]) (by rw [HRC.out, HO.out.2]), bthen bW d2⟩
  | false =>
   have HO := Lib.hid (to64_out hin)
   cases s
   ·have hzv : z = (v : Int) := HZ.out
    rw [hzv] at hin
    have ht : decide ((v : Int) < 9223372036854775808) = false := by rw [← inR_pos]; exact hin
    clear hin hzv
    go_enter Try.func34, Try.ntmps34
    go_wp2_with fail
    rw [← hW]
    clear hW
    refine HT.out.mono ?_
    rintro e w1 ⟨rfl, rfl⟩
    go_wp2_with fail
    refine HTW.out.mono ?_
    rintro e w2 ⟨rfl, hq⟩
    have d2 := qbelow hq
    obtain ⟨a0, a1⟩ := (pa.call d2).cells1
    clear hq HTW HT
    go_wp2
    go_ret2
    exact ⟨ret_tup (by rw [HRV.out, HO.out.1]) (by rw [HRC.out, HO.out.2]), bthen bW d2⟩
   ·have hzv : z = -(v : Int) := HZ.out
    rw [hzv] at hin
    have ht : decide ((v : Int) ≤ 9223372036854775808) = false := by rw [← inR_neg]; exact hin
    clear hin hzv
    go_enter Try.func34, Try.ntmps34
    go_wp2_with fail
    rw [← hW]
    clear hW
    refine HT.out.mono ?_
    rintro e w1 ⟨rfl, rfl⟩
    go_wp2_with fail
    refine HTW.out.mono ?_
    rintro e w2 ⟨rfl, hq⟩
    have d2 := qbelow hq
    obtain ⟨a0, a1⟩ := (pa.call d2).cells1
    clear hq HTW HT
    go_wp2
    go_ret2
    exact ⟨ret_tup (by rw [HRV.out, HO.out.1]) (by rw [HRC.out, HO.out.2]), bthen bW d2⟩

end Go.Proofs.Ytflajoflpkboiaa
