/- Walks of FromInt64 and DivMod of the reference. -/
import Derived.Test.YtflajoflpkboiaaGreatRefG
import Derived.Test.YtflajoflpkboiaaGreatOrders
import Derived.Test.YtflajoflpkboiaaGreatDivMod
namespace Go.Proofs.YtflajoflpkboiaaGreat
open Go.RowKit
set_option linter.unusedVariables false

theorem make_two (neg : Bool) (W : World) (k : Nat) (hk : k < 18446744073709551616) :
  Calls Tryz.prog 87 #[.bool neg, .slice (some ⟨W.heap.size, 0, none⟩) 2 2] (W.alloc (.cells #[.int .u32 ((k % 4294967296 : Nat) : Int), .int .u32 ((k / 4294967296 : Nat) : Int)] 79)) (RetInt (W.alloc (.cells #[.int .u32 ((k % 4294967296 : Nat) : Int), .int .u32 ((k / 4294967296 : Nat) : Int)] 79)) (sgn neg k)) := by
 have hr := Rd.block .u32 W 79 (0, 0) [k % 4294967296, k / 4294967296] #[.int .u32 ((k % 4294967296 : Nat) : Int), .int .u32 ((k / 4294967296 : Nat) : Int)] (by simp [cellsOf])
 have h := make_any (c := 2) neg _ hr (by simp) (W32.mk (Nat.mod_lt _ (by omega)) (W32.mk (by omega) W32.nil)) (by simp) (by omega) (by simp)
 rw [show val [k % 4294967296, k / 4294967296] = k by simp [val]; omega] at h
 exact h

set_option maxRecDepth 100000 in
theorem refFromInt64_any (k : Int) (w : World) (h1 : -9223372036854775808 ≤ k) (h2 : k ≤ 9223372036854775807) : Calls Tryz.prog 60 #[.int .i64 k] w (RetInt w k) := by
 obtain ⟨W, hW⟩ : ∃ W, W = w.alloc (.cells #[.bool false, .slice none 0 0] 29) := ⟨_, rfl⟩
 have hsz : W.heap.size = w.heap.size + 1 := by rw [hW]; simp
 have bW : Below w.heap.size w W := by rw [hW]; exact bone w _
 have pr : Pr W w.heap.size false none 0 0 := by rw [hW]; exact Pr.new w false none 0 0
 obtain ⟨a, ha⟩ : ∃ a, a = k.natAbs := ⟨_, rfl⟩
 have hab : a < 18446744073709551616 := by omega
 by_cases h0 : k < 0
 ·have hd : decide (k < 0) = true := by simp; omega
  have e1 : IntKind.u64.wrap (-IntKind.u64.wrap k) = (a : Int) := by rw [IntKind.wrap_u64]; (try rw [IntKind.wrap_u64]); omega
  have HM := Lib.hid (make_two true W a hab)
  rw [show sgn true a = k by unfold sgn; simp; omega, hsz] at HM
  have e2 : (a : Int) % 4294967296 = ((a % 4294967296 : Nat) : Int) := by omega
  have e3 : (a : Int) / 4294967296 = ((a / 4294967296 : Nat) : Int) := by omega
  have hal : a / 4294967296 < 4294967296 := by omega
  have ham : a % 4294967296 < 4294967296 := by omega
  clear ha
  generalize a % 4294967296 = lo at *
  generalize a / 4294967296 = hi at *
  go_enter Tryz.func60, Tryz.ntmps60
  go_wp2_with fail
  rw [← hW]
  clear hW
  refine HM.out.mono ?_
  rintro e w2 ⟨neg, A2, n2, c2, rfl, ci, d2⟩
  have d3 := bthen (bone W (.cells #[.int .u32 (lo : Int), .int .u32 (hi : Int)] 79)) d2
  have p2 := pr.call d3
  obtain ⟨q0, q1, f0, f1, k0, k1⟩ := p2.all (.bool neg) (.slice A2 n2 c2)
  go_wp2
  ((try simp only [Exit.inBlock, Exit.then]); refine bodyPost_ret (by simp [results, Tryz.results60, go_sem, k0, k1]; try rfl) rfl ?_)
  exact RetInt.stored ci p2 (bthen bW d3) (by omega)
 ·have hd : decide (k < 0) = false := by simp; omega
  have e1 : IntKind.u64.wrap k = (a : Int) := by rw [IntKind.wrap_u64]; omega
  have HM := Lib.hid (make_two false W a hab)
  rw [show sgn false a = k by unfold sgn; simp; omega, hsz] at HM
  have e2 : (a : Int) % 4294967296 = ((a % 4294967296 : Nat) : Int) := by omega
  have e3 : (a : Int) / 4294967296 = ((a / 4294967296 : Nat) : Int) := by omega
  have hal : a / 4294967296 < 4294967296 := by omega
  have ham : a % 4294967296 < 4294967296 := by omega
  clear ha
  generalize a % 4294967296 = lo at *
  generalize a / 4294967296 = hi at *
  go_enter Tryz.func60, Tryz.ntmps60
  go_wp2_with fail
  rw [← hW]
  clear hW
  refine HM.out.mono ?_
  rintro e w2 ⟨neg, A2, n2, c2, rfl, ci, d2⟩
  have d3 := bthen (bone W (.cells #[.int .u32 (lo : Int), .int .u32 (hi : Int)] 79)) d2
  have p2 := pr.call d3
  obtain ⟨q0, q1, f0, f1, k0, k1⟩ := p2.all (.bool neg) (.slice A2 n2 c2)
  go_wp2
  ((try simp only [Exit.inBlock, Exit.then]); refine bodyPost_ret (by simp [results, Tryz.results60, go_sem, k0, k1]; try rfl) rfl ?_)
  exact RetInt.stored ci p2 (bthen bW d3) (by omega)

theorem trunc_floor {s t : Bool} {a b : Nat} (hb : 0 < b) (h : 0 < a % b) (hst : s ≠ t) :
  sgn (!(s == t)) (a / b) - 1 = (sgn s a).fdiv (sgn t b) ∧ sgn s (a % b) + sgn t b = (sgn s a).fmod (sgn t b) := by
 obtain ⟨h1, h2⟩ := floor_signed (s := s) (t := t) (a := a) hb
 rw [if_pos ⟨h, hst⟩] at h1 h2
 have h3 := Nat.mod_lt a hb
 rw [h1, h2]
 cases s <;> cases t <;> simp at hst <;> simp [sgn] <;> omega
theorem trunc_floor' {s t : Bool} {a b : Nat} (hb : 0 < b) (h : ¬ (0 < a % b ∧ s ≠ t)) :
  sgn (!(s == t)) (a / b) = (sgn s a).fdiv (sgn t b) ∧ sgn s (a % b) = (sgn s a).fmod (sgn t b) := by
 obtain ⟨h1, h2⟩ := floor_signed (s := s) (t := t) (a := a) hb
 rw [if_neg h] at h1 h2
 rw [h1, h2]
 refine ⟨rfl, ?_⟩
 by_cases hst : s = t
 ·rw [hst]
 ·have : a % b = 0 := by
   rcases Nat.eq_zero_or_pos (a % b) with h0 | h0
   ·exact h0
   ·exact absurd ⟨h0, hst⟩ h
  rw [this, sgn_zero, sgn_zero]

end Go.Proofs.YtflajoflpkboiaaGreat
