/- Walks of gcdWord and of window. -/
import Derived.Test.YtflajoflpkboiaaGreatGcdPlain
import Derived.Test.YtflajoflpkboiaaGreatIntF
namespace Go.Proofs.YtflajoflpkboiaaGreat
open Go.RowKit
set_option linter.unusedVariables false

set_option maxRecDepth 100000 in
theorem gcdWord_any (a b : Nat) (w : World) (ha : a < 18446744073709551616) (hb : b < 18446744073709551616) :
  Calls Tryz.prog 129 #[.int .u64 a, .int .u64 b] w (RetQ w (.int .u64 (Nat.gcd a b : Nat))) := by
 obtain ⟨G, hG⟩ : ∃ G, Nat.gcd a b = G := ⟨_, rfl⟩
 have HG := Lib.hid hG
 rw [hG]
 clear hG
 go_enter Tryz.func129, Tryz.ntmps129
 go_wp2
 go_loopw [0, 1] (fun x y wr => ∃ p q : Nat, x = .int .u64 p ∧ y = .int .u64 q ∧ p < 18446744073709551616 ∧ q < 18446744073709551616 ∧ Hid (Nat.gcd p q = G) ∧ Hid (∃ n, wr = w.drewN n)) (fun _ y _ => (intOf y).toNat)
 case atStart => exact ⟨a, b, rfl, rfl, ha, hb, HG, ⟨0, rfl⟩⟩
 case round =>
  obtain ⟨p, q, rfl, rfl, hp, hq, HP, HW⟩ := hrel
  by_cases h0 : q = 0
  ·subst h0
   have HP' := HP.out
   rw [Nat.gcd_zero_right] at HP'
   subst HP'
   go_wp2
   go_ret
   exact ⟨rfl, HW.out⟩
  ·have hb0 : ((q : Int) == 0) = false := by simp; omega
   have hb1 : ((q : Int) != 0) = true := by simp; omega
   have hq0 : 0 < q := by omega
   have hlt : p % q < q := Nat.mod_lt _ hq0
   have HN : Hid (Nat.gcd q (p % q) = G) := by unfold Hid; rw [← HP.out, Nat.gcd_comm q, ← Nat.gcd_rec, Nat.gcd_comm]
   obtain ⟨r, hr⟩ : ∃ r, p % q = r := ⟨_, rfl⟩
   have e1 : (p : Int).tmod (q : Int) = (r : Int) := by rw [← hr]; exact (Int.ofNat_tmod p q).symm
   have e2 : (p : Int) % (q : Int) = (r : Int) := by rw [← hr]; exact (Int.natCast_emod p q).symm
   rw [hr] at HN hlt
   clear hr h0
   go_wp2
   go_quiet (fail)
   go_wp2
   go_roundw
   case rel => exact ⟨q, r, rfl, rfl, by omega, by omega, HN, by obtain ⟨n, hn⟩ := HW.out; exact ⟨n + _, by rw [hn, World.drewN_drewN]⟩⟩
   case measure => simp [intOf] <;> omega

set_option maxRecDepth 100000 in
theorem at_any {A : Option Addr} {n c B g i : Nat} {xs : List Nat} (w : World) (hc : w.cell? ⟨g, 0, none⟩ = some (.slice A n c)) (hr : Rd .u32 w B A n xs) (hx : W32 xs) (hi : i ≤ 4611686018427387904) (hn : n ≤ 4611686018427387904) :
  Calls Tryz.prog 136 #[.int .i64 (i : Int), .pointer (some ⟨g, 0, none⟩)] w (fun e w' => e = .returned (.int .u64 (xs.getD i 0 : Nat)) ∧ w = w') := by
 have HL := Lib.hid hr.len
 have hxl := hx.getD i
 clear hx
 by_cases h0 : i < n
 ·obtain ⟨b, off, rfl, hb, hcell⟩ := hr.at_ h0
  generalize xs.getD i 0 = x at *
  have i1 : (0 : Int) ≤ (i : Int) := by omega
  have i2 : (i : Int) < (n : Int) := by omega
  go_enter Tryz.func136, Tryz.ntmps136
  go_wp2
  go_ret
  exact ⟨rfl, rfl⟩
 ·have hz : xs.getD i 0 = 0 := getD_beyond xs i (by rw [HL.out]; omega)
  rw [hz]
  clear hz hxl
  go_enter Tryz.func136, Tryz.ntmps136
  go_wp2
  go_ret
  exact ⟨rfl, rfl⟩

theorem win_facts {x1 x2 x3 s : Nat} (h1 : x1 < 2 ^ (32 - s)) (h2 : x2 < 4294967296) (h3 : x3 < 4294967296) (hs : s ≤ 31) : ∃ ph lo : Nat, IntKind.u64.wrap (((x2 + 4294967296 * x1 : Nat) : Int) * 2 ^ s) = (ph : Int) ∧ (x3 : Int) / 2 ^ (32 - s) = (lo : Int) ∧ bits .or .u64 (ph : Int) (lo : Int) = (((x1 * 4294967296 + x2) * 2 ^ s + x3 / 2 ^ (32 - s) : Nat) : Int) ∧ ph < 18446744073709551616 ∧ lo < 4294967296 := by
 have hp : 2 ^ (32 - s) * 2 ^ s = 4294967296 := by rw [← Nat.pow_add, show 32 - s + s = 32 by omega]
 have hpos : 0 < 2 ^ s := Nat.two_pow_pos s
 have hpos' : 0 < 2 ^ (32 - s) := Nat.two_pow_pos _
 have hlo : x3 / 2 ^ (32 - s) < 2 ^ s := by rw [Nat.div_lt_iff_lt_mul hpos', Nat.mul_comm, hp]; exact h3
 have hhi : (x2 + 4294967296 * x1) * 2 ^ s + 2 ^ s ≤ 4294967296 * 4294967296 := by
  have e1 : (x1 + 1) * 2 ^ s ≤ 2 ^ (32 - s) * 2 ^ s := Nat.mul_le_mul_right _ h1
  rw [hp] at e1
  have e2 : (x2 + 4294967296 * x1 + 1) * 2 ^ s ≤ 4294967296 * (x1 + 1) * 2 ^ s := Nat.mul_le_mul_right _ (by omega)
  rw [Nat.mul_assoc] at e2
  rw [Nat.succ_mul] at e2
  omega
 have hs2 : 2 ^ s ≤ 4294967296 := Nat.pow_le_pow_right (n := 2) (by omega) (show s ≤ 32 by omega)
 have e0 : ∀ h : Nat, ((h * 2 ^ s : Nat) : Int) = (h : Int) * 2 ^ s := fun h => by simp
 have e := e0 (x2 + 4294967296 * x1)
 have hj := nat_join s ((x2 + 4294967296 * x1) * 2 ^ s) (x3 / 2 ^ (32 - s)) (Nat.mul_mod_left _ _) hlo
 refine ⟨(x2 + 4294967296 * x1) * 2 ^ s, x3 / 2 ^ (32 - s), ?_, by simp, ?_, by omega, by omega⟩
 ·rw [← e, IntKind.wrap_u64]; omega
 ·rw [u64_or_nat _ _ (by omega) (by omega), hj]
  rw [show x1 * 4294967296 + x2 = x2 + 4294967296 * x1 by omega]

set_option maxRecDepth 100000 in
theorem window_any {A : Option Addr} {n c N s : Nat} {xs : List Nat} (w : World) (hr : Rd .u32 w w.heap.size A n xs) (hx : W32 xs) (hN : 3 ≤ N) (hnN : n ≤ N) (hNl : N ≤ 549755813888) (hs : s ≤ 31) (htop : xs.getD (N - 1) 0 < 2 ^ (32 - s)) :
  Calls Tryz.prog 134 #[.slice A n c, .int .i64 (N : Int), .int .u64 (s : Int)] w (RetV w (.int .u64 (val xs / 2 ^ (32 * (N - 2) - s) : Nat))) := by
 have HV := Lib.hid (window_val xs N s hN (by rw [hr.len]; exact hnN) hx hs)
 obtain ⟨W, hW⟩ : ∃ W, W = w.alloc (.cells #[.slice A n c] 27) := ⟨_, rfl⟩
 have bW : Below w.heap.size w W := by rw [hW]; exact bone _ _
 have hc : W.cell? ⟨w.heap.size, 0, none⟩ = some (.slice A n c) := by rw [hW]; simp
 have hr1 := hr.call bW
 have H1 := Lib.hid (at_any (i := N - 1) W hc hr1 hx (by omega) (by omega))
 have H2 := Lib.hid (at_any (i := N - 2) W hc hr1 hx (by omega) (by omega))
 have H3 := Lib.hid (at_any (i := N - 3) W hc hr1 hx (by omega) (by omega))
 have k1 : (N : Int) - 1 = ((N - 1 : Nat) : Int) := by omega
 have k2 : (N : Int) - 2 = ((N - 2 : Nat) : Int) := by omega
 have k3 : (N : Int) - 3 = ((N - 3 : Nat) : Int) := by omega
 rw [← k1] at H1
 rw [← k2] at H2
 rw [← k3] at H3
 have l1 := hx.getD (N - 1)
 have l2 := hx.getD (N - 2)
 have l3 := hx.getD (N - 3)
 rw [← HV.out]
 clear HV hc hr hr1 hx k1 k2 k3
 generalize xs.getD (N - 1) 0 = x1 at *
 generalize xs.getD (N - 2) 0 = x2 at *
 generalize xs.getD (N - 3) 0 = x3 at *
 obtain ⟨ph, lo, f1, f2, f3, f4, f5⟩ := win_facts htop l2 l3 hs
 have e1 := u64_join x2 x1 l2 l1
 have hhi : x2 + 4294967296 * x1 < 18446744073709551616 := by omega
 generalize x2 + 4294967296 * x1 = hi at *
 generalize (x1 * 4294967296 + x2) * 2 ^ s + x3 / 2 ^ (32 - s) = res at *
 go_enter Tryz.func134, Tryz.ntmps134
 go_wp2_with fail
 rw [← hW]
 clear hW
 refine H1.out.mono ?_
 rintro e w1 ⟨rfl, rfl⟩
 go_wp2_with fail
 refine H2.out.mono ?_
 rintro e w1 ⟨rfl, rfl⟩
 go_wp2_with fail
 refine H3.out.mono ?_
 rintro e w1 ⟨rfl, rfl⟩
 go_wp2
 go_ret
 exact ⟨rfl, bW⟩
end Go.Proofs.YtflajoflpkboiaaGreat
