/- Walk of cofactors. -/
import Derived.Test.YtociocengfjioaaGreatDoorGcdPlain
import Derived.Test.YtociocengfjioaaGreatDoorIntF
import Derived.Test.YtociocengfjioaaGreatDoorDivLong
/- Walks of gcdWord and of window. -/
namespace Go.Proofs.YtociocengfjioaaGreatDoor
open Go.RowKit
set_option linter.unusedVariables false

set_option maxRecDepth 100000 in
theorem gcdWord_any (a b : Nat) (w : World) (ha : a < 18446744073709551616) (hb : b < 18446744073709551616) :
    Calls Tryz.prog 142 #[.int .u64 a, .int .u64 b] w (RetQ w (.int .u64 (Nat.gcd a b : Nat))) := by
  obtain ⟨G, hG⟩ : ∃ G, Nat.gcd a b = G := ⟨_, rfl⟩
  have HG := Lib.hid hG
  rw [hG]
  clear hG
  go_enter Tryz.func142, Tryz.ntmps142
  go_wp2
  go_loopw [0, 1] (fun x y wr => ∃ p q : Nat, x = .int .u64 p ∧ y = .int .u64 q ∧ p < 18446744073709551616 ∧ q < 18446744073709551616 ∧ Hid (Nat.gcd p q = G) ∧ Hid (∃ n, wr = w.drewN n)) (fun _ y _ => (intOf y).toNat)
  case atStart => exact ⟨a, b, rfl, rfl, ha, hb, HG, ⟨0, rfl⟩⟩
  case round =>
    obtain ⟨p, q, rfl, rfl, hp, hq, HP, HW⟩ := hrel
    by_cases h0 : q = 0
    · subst h0
      have HP' := HP.out
      rw [Nat.gcd_zero_right] at HP'
      subst HP'
      go_wp2
      go_ret
      exact ⟨rfl, HW.out⟩
    · have hb0 : ((q : Int) == 0) = false := by simp; omega
      have hb1 : ((q : Int) != 0) = true := by simp; omega
      have hq0 : 0 < q := by omega
      have hlt : p % q < q := Nat.mod_lt _ hq0
      have HN : Hid (Nat.gcd q (p % q) = G) := by unfold Hid; rw [← HP.out, Nat.gcd_comm q, ← Nat.gcd_rec, Nat.gcd_comm]
      obtain ⟨r, hr⟩ : ∃ r, p % q = r := ⟨_, rfl⟩
      have e1 : (p : Int).tmod (q : Int) = (r : Int) := by rw [← hr]; exact (Int.ofNat_tmod p q).symm
      have e2 : (p : Int) % (q : Int) = (r : Int) := by rw [← hr]; exact (Int.natCast_emod p q).symm
      rw [hr] at HN hlt
      clear hr h0
      go_wp2
      go_quiet (fail)
      go_wp2
      go_roundw
      case rel => exact ⟨q, r, rfl, rfl, by omega, by omega, HN, by obtain ⟨n, hn⟩ := HW.out; exact ⟨n + _, by rw [hn, World.drewN_drewN]⟩⟩
      case measure => simp [intOf] <;> omega

set_option maxRecDepth 100000 in
theorem at_any {A : Option Addr} {n c B g i : Nat} {xs : List Nat} (w : World) (hc : w.cell? ⟨g, 0, none⟩ = some (.slice A n c)) (hr : Rd .u32 w B A n xs) (hx : W32 xs) (hi : i ≤ 4611686018427387904) (hn : n ≤ 4611686018427387904) :
    Calls Tryz.prog 173 #[.int .i64 (i : Int), .pointer (some ⟨g, 0, none⟩)] w (fun e w' => e = .returned (.int .u64 (xs.getD i 0 : Nat)) ∧ w = w') := by
  have HL := Lib.hid hr.len
  have hxl := hx.getD i
  clear hx
  by_cases h0 : i < n
  · obtain ⟨b, off, rfl, hb, hcell⟩ := hr.at_ h0
    generalize xs.getD i 0 = x at *
    have i1 : (0 : Int) ≤ (i : Int) := by omega
    have i2 : (i : Int) < (n : Int) := by omega
    go_enter Tryz.func173, Tryz.ntmps173
    go_wp2
    go_ret
    exact ⟨rfl, rfl⟩
  · have hz : xs.getD i 0 = 0 := getD_beyond xs i (by rw [HL.out]; omega)
    rw [hz]
    clear hz hxl
    go_enter Tryz.func173, Tryz.ntmps173
    go_wp2
    go_ret
    exact ⟨rfl, rfl⟩

theorem win_facts {x1 x2 x3 s : Nat} (h1 : x1 < 2 ^ (32 - s)) (h2 : x2 < 4294967296) (h3 : x3 < 4294967296) (hs : s ≤ 31) : ∃ ph lo : Nat, IntKind.u64.wrap (((x2 + 4294967296 * x1 : Nat) : Int) * 2 ^ s) = (ph : Int) ∧ (x3 : Int) / 2 ^ (32 - s) = (lo : Int) ∧ bits .or .u64 (ph : Int) (lo : Int) = (((x1 * 4294967296 + x2) * 2 ^ s + x3 / 2 ^ (32 - s) : Nat) : Int) ∧ ph < 18446744073709551616 ∧ lo < 4294967296 := by
  have hp : 2 ^ (32 - s) * 2 ^ s = 4294967296 := by rw [← Nat.pow_add, show 32 - s + s = 32 by omega]
  have hpos : 0 < 2 ^ s := Nat.two_pow_pos s
  have hpos' : 0 < 2 ^ (32 - s) := Nat.two_pow_pos _
  have hlo : x3 / 2 ^ (32 - s) < 2 ^ s := by rw [Nat.div_lt_iff_lt_mul hpos', Nat.mul_comm, hp]; exact h3
  have hhi : (x2 + 4294967296 * x1) * 2 ^ s + 2 ^ s ≤ 4294967296 * 4294967296 := by
    have e1 : (x1 + 1) * 2 ^ s ≤ 2 ^ (32 - s) * 2 ^ s := Nat.mul_le_mul_right _ h1
    rw [hp] at e1
    have e2 : (x2 + 4294967296 * x1 + 1) * 2 ^ s ≤ 4294967296 * (x1 + 1) * 2 ^ s := Nat.mul_le_mul_right _ (by omega)
    rw [Nat.mul_assoc] at e2
    rw [Nat.succ_mul] at e2
    omega
  have hs2 : 2 ^ s ≤ 4294967296 := Nat.pow_le_pow_right (n := 2) (by omega) (show s ≤ 32 by omega)
  have e0 : ∀ h : Nat, ((h * 2 ^ s : Nat) : Int) = (h : Int) * 2 ^ s := fun h => by simp
  have e := e0 (x2 + 4294967296 * x1)
  have hj := nat_join s ((x2 + 4294967296 * x1) * 2 ^ s) (x3 / 2 ^ (32 - s)) (Nat.mul_mod_left _ _) hlo
  refine ⟨(x2 + 4294967296 * x1) * 2 ^ s, x3 / 2 ^ (32 - s), ?_, by simp, ?_, by omega, by omega⟩
  · rw [← e, IntKind.wrap_u64]; omega
  · rw [u64_or_nat _ _ (by omega) (by omega), hj]
    rw [show x1 * 4294967296 + x2 = x2 + 4294967296 * x1 by omega]

set_option maxRecDepth 100000 in
theorem window_any {A : Option Addr} {n c N s : Nat} {xs : List Nat} (w : World) (hr : Rd .u32 w w.heap.size A n xs) (hx : W32 xs) (hN : 3 ≤ N) (hnN : n ≤ N) (hNl : N ≤ 549755813888) (hs : s ≤ 31) (htop : xs.getD (N - 1) 0 < 2 ^ (32 - s)) :
    Calls Tryz.prog 159 #[.slice A n c, .int .i64 (N : Int), .int .u64 (s : Int)] w (RetV w (.int .u64 (val xs / 2 ^ (32 * (N - 2) - s) : Nat))) := by
  have HV := Lib.hid (window_val xs N s hN (by rw [hr.len]; exact hnN) hx hs)
  obtain ⟨W, hW⟩ : ∃ W, W = w.alloc (.cells #[.slice A n c] 22) := ⟨_, rfl⟩
  have bW : Below w.heap.size w W := by rw [hW]; exact bone _ _
  have hc : W.cell? ⟨w.heap.size, 0, none⟩ = some (.slice A n c) := by rw [hW]; simp
  have hr1 := hr.call bW
  have H1 := Lib.hid (at_any (i := N - 1) W hc hr1 hx (by omega) (by omega))
  have H2 := Lib.hid (at_any (i := N - 2) W hc hr1 hx (by omega) (by omega))
  have H3 := Lib.hid (at_any (i := N - 3) W hc hr1 hx (by omega) (by omega))
  have k1 : (N : Int) - 1 = ((N - 1 : Nat) : Int) := by omega
  have k2 : (N : Int) - 2 = ((N - 2 : Nat) : Int) := by omega
  have k3 : (N : Int) - 3 = ((N - 3 : Nat) : Int) := by omega
  rw [← k1] at H1
  rw [← k2] at H2
  rw [← k3] at H3
  have l1 := hx.getD (N - 1)
  have l2 := hx.getD (N - 2)
  have l3 := hx.getD (N - 3)
  rw [← HV.out]
  clear HV hc hr hr1 hx k1 k2 k3
  generalize xs.getD (N - 1) 0 = x1 at *
  generalize xs.getD (N - 2) 0 = x2 at *
  generalize xs.getD (N - 3) 0 = x3 at *
  obtain ⟨ph, lo, f1, f2, f3, f4, f5⟩ := win_facts htop l2 l3 hs
  have e1 := u64_join x2 x1 l2 l1
  have hhi : x2 + 4294967296 * x1 < 18446744073709551616 := by omega
  generalize x2 + 4294967296 * x1 = hi at *
  generalize (x1 * 4294967296 + x2) * 2 ^ s + x3 / 2 ^ (32 - s) = res at *
  go_enter Tryz.func159, Tryz.ntmps159
  go_wp2_with fail
  rw [← hW]
  clear hW
  refine H1.out.mono ?_
  rintro e w1 ⟨rfl, rfl⟩
  go_wp2_with fail
  refine H2.out.mono ?_
  rintro e w1 ⟨rfl, rfl⟩
  go_wp2_with fail
  refine H3.out.mono ?_
  rintro e w1 ⟨rfl, rfl⟩
  go_wp2
  go_ret
  exact ⟨rfl, bW⟩
end Go.Proofs.YtociocengfjioaaGreatDoor

namespace Go.Proofs.YtociocengfjioaaGreatDoor
open Go.RowKit
set_option linter.unusedVariables false

/-- a block that holds a cosequence -/
def Cq (w : World) (g u0 u1 v0 v1 : Nat) (even : Bool) : Prop := w.heap[g]? = some (.cells #[.int .u64 u0, .int .u64 u1, .int .u64 v0, .int .u64 v1, .bool even] 131 (0, 0))
section
variable {w w' : World} {g u0 u1 v0 v1 : Nat} {even : Bool}
theorem Cq.lt (h : Cq w g u0 u1 v0 v1 even) : g < w.heap.size := (Array.getElem?_eq_some_iff.1 h).1
theorem Cq.call (h : Cq w g u0 u1 v0 v1 even) (hb : Below w.heap.size w w') : Cq w' g u0 u1 v0 v1 even := (hb.block g h.lt).trans h
theorem Cq.c0 (h : Cq w g u0 u1 v0 v1 even) : w.cell? ⟨g, 0, none⟩ = some (.int .u64 u0) := by rw [cell_of_row w g 0 _ _ (0, 0) h]; rfl
theorem Cq.c1 (h : Cq w g u0 u1 v0 v1 even) : w.cell? ⟨g, 1, none⟩ = some (.int .u64 u1) := by rw [cell_of_row w g 1 _ _ (0, 0) h]; rfl
theorem Cq.c2 (h : Cq w g u0 u1 v0 v1 even) : w.cell? ⟨g, 2, none⟩ = some (.int .u64 v0) := by rw [cell_of_row w g 2 _ _ (0, 0) h]; rfl
theorem Cq.c3 (h : Cq w g u0 u1 v0 v1 even) : w.cell? ⟨g, 3, none⟩ = some (.int .u64 v1) := by rw [cell_of_row w g 3 _ _ (0, 0) h]; rfl
theorem Cq.c4 (h : Cq w g u0 u1 v0 v1 even) : w.cell? ⟨g, 4, none⟩ = some (.bool even) := by rw [cell_of_row w g 4 _ _ (0, 0) h]; rfl
theorem Cq.frozen (h : Cq w g u0 u1 v0 v1 even) (i : Nat) : w.frozen? ⟨g, i, none⟩ = false := by
  unfold Cq at h
  simp [World.frozen?, h]
theorem Cq.all (h : Cq w g u0 u1 v0 v1 even) : w.cell? ⟨g, 0, none⟩ = some (.int .u64 u0) ∧ w.cell? ⟨g, 1, none⟩ = some (.int .u64 u1) ∧ w.cell? ⟨g, 2, none⟩ = some (.int .u64 v0) ∧ w.cell? ⟨g, 3, none⟩ = some (.int .u64 v1) ∧ w.cell? ⟨g, 4, none⟩ = some (.bool even) ∧
    w.frozen? ⟨g, 0, none⟩ = false ∧ w.frozen? ⟨g, 1, none⟩ = false ∧ w.frozen? ⟨g, 2, none⟩ = false ∧ w.frozen? ⟨g, 3, none⟩ = false ∧ w.frozen? ⟨g, 4, none⟩ = false := ⟨h.c0, h.c1, h.c2, h.c3, h.c4, h.frozen 0, h.frozen 1, h.frozen 2, h.frozen 3, h.frozen 4⟩
theorem Cq.far (h : Cq w g u0 u1 v0 v1 even) {p : Addr} (hp : g ≠ p.block) (u : Value) : Cq (w.setCell p u) g u0 u1 v0 v1 even := (Below.heap_setCell w p u g hp).trans h
theorem Cq.s0 (h : Cq w g u0 u1 v0 v1 even) (x : Nat) : Cq (w.setCell ⟨g, 0, none⟩ (.int .u64 x)) g x u1 v0 v1 even := by
  unfold Cq at h ⊢; simp only [World.setCell, Array.getElem?_modify, h, if_true, Option.map_some]; rfl
theorem Cq.s1 (h : Cq w g u0 u1 v0 v1 even) (x : Nat) : Cq (w.setCell ⟨g, 1, none⟩ (.int .u64 x)) g u0 x v0 v1 even := by
  unfold Cq at h ⊢; simp only [World.setCell, Array.getElem?_modify, h, if_true, Option.map_some]; rfl
theorem Cq.s2 (h : Cq w g u0 u1 v0 v1 even) (x : Nat) : Cq (w.setCell ⟨g, 2, none⟩ (.int .u64 x)) g u0 u1 x v1 even := by
  unfold Cq at h ⊢; simp only [World.setCell, Array.getElem?_modify, h, if_true, Option.map_some]; rfl
theorem Cq.s3 (h : Cq w g u0 u1 v0 v1 even) (x : Nat) : Cq (w.setCell ⟨g, 3, none⟩ (.int .u64 x)) g u0 u1 v0 x even := by
  unfold Cq at h ⊢; simp only [World.setCell, Array.getElem?_modify, h, if_true, Option.map_some]; rfl
theorem Cq.s4 (h : Cq w g u0 u1 v0 v1 even) (x : Bool) : Cq (w.setCell ⟨g, 4, none⟩ (.bool x)) g u0 u1 v0 v1 x := by
  unfold Cq at h ⊢; simp only [World.setCell, Array.getElem?_modify, h, if_true, Option.map_some]; rfl
theorem Cq.new (w : World) (u0 u1 v0 v1 : Nat) (even : Bool) : Cq (w.alloc (.cells #[.int .u64 u0, .int .u64 u1, .int .u64 v0, .int .u64 v1, .bool even] 131)) w.heap.size u0 u1 v0 v1 even := by
  unfold Cq; simp only [World.alloc, Array.getElem?_push_size]
end
/-- what cofactors returns -/
def RetCo (w : World) (A1 A2 : Nat) (e : Ending) (w' : World) : Prop :=
  ∃ u0 u1 v0 v1 even, e = .returned (.agg #[.int .u64 (u0 : Nat), .int .u64 (u1 : Nat), .int .u64 (v0 : Nat), .int .u64 (v1 : Nat), .bool even]) ∧ (v0 = 0 ∨ ∃ p a, Cot A1 A2 p a u0 u1 v0 v1 even) ∧ Below w.heap.size w w'

/-- the state of the loop -/
def CoS (w wr : World) (g9 A1 A2 a1 a2 u0 u1 u2 v0 v1 v2 : Nat) (even : Bool) : Prop :=
  Cos A1 A2 a1 a2 u1 u2 v1 v2 even ∧ (v0 = 0 ∨ ∃ p a, Cot A1 A2 p a u0 u1 v0 v1 even) ∧ Cq wr w.heap.size 0 0 0 0 false ∧ Cq wr g9 u0 u1 v0 v1 even ∧ Below w.heap.size w wr

theorem getD_top (xs : List Nat) (j : Nat) (h : W32 xs) (hl : xs.length ≤ j + 1) : xs.getD j 0 = val xs / 4294967296 ^ j := by
  rw [← val_drop xs j h]
  have : (xs.drop j).length ≤ 1 := by rw [List.length_drop]; omega
  have e : xs.getD j 0 = (xs.drop j).getD 0 0 := by simp [List.getD_eq_getElem?_getD, List.getElem?_drop]
  rw [e]
  match xs.drop j, this with
  | [], _ => rfl
  | [a], _ => simp [val]
  | _ :: _ :: _, h => simp at h
/-- the leading bits: a shift that brings the first digit's first bit to the top -/
theorem lead_facts {X Y n s : Nat} (hl : (digits X).length = n) (hn : 3 ≤ n) (hle : Y ≤ X) (hs : s = 32 - blen ((digits X).getD (n - 1) 0)) :
    s ≤ 31 ∧ (digits X).getD (n - 1) 0 < 2 ^ (32 - s) ∧ (digits Y).getD (n - 1) 0 < 2 ^ (32 - s) ∧ (digits Y).length ≤ n ∧ X / 2 ^ (32 * (n - 2) - s) < 18446744073709551616 ∧ Y / 2 ^ (32 * (n - 2) - s) ≤ X / 2 ^ (32 * (n - 2) - s) := by
  obtain ⟨h0, hlt, _⟩ := norm_facts hl (by omega)
  have hly := digits_len_mono hle
  rw [hl] at hly
  have tx := getD_top (digits X) (n - 1) (digits_w32 _) (by omega)
  have ty := getD_top (digits Y) (n - 1) (digits_w32 _) (by omega)
  rw [val_digits] at tx ty
  have hb1 := blen_lt ((digits X).getD (n - 1) 0)
  have hb2 : blen ((digits X).getD (n - 1) 0) ≤ 32 := blen_le hlt
  have hb3 : 1 ≤ blen ((digits X).getD (n - 1) 0) := by
    rcases Nat.eq_zero_or_pos (blen ((digits X).getD (n - 1) 0)) with h | h
    · rw [h] at hb1; omega
    · exact h
  have hs1 : s ≤ 31 := by omega
  have hs2 : 32 - s = blen ((digits X).getD (n - 1) 0) := by omega
  have hxy : (digits Y).getD (n - 1) 0 ≤ (digits X).getD (n - 1) 0 := by rw [tx, ty]; exact Nat.div_le_div_right hle
  rw [← hs2] at hb1
  refine ⟨hs1, hb1, Nat.lt_of_le_of_lt hxy hb1, hly, ?_, Nat.div_le_div_right hle⟩
  rw [Nat.div_lt_iff_lt_mul (Nat.two_pow_pos _)]
  rw [tx, Nat.div_lt_iff_lt_mul (Nat.pow_pos (by omega))] at hb1
  refine Nat.lt_of_lt_of_le hb1 (Nat.le_of_eq ?_)
  rw [show (18446744073709551616 : Nat) = 2 ^ 64 by rfl, show (4294967296 : Nat) = 2 ^ 32 by rfl, ← Nat.pow_mul, ← Nat.pow_add, ← Nat.pow_add]
  congr 1
  omega

set_option maxHeartbeats 2000000 in
set_option maxRecDepth 100000 in
theorem cofactors_any {A A' : Option Addr} {n n' c c' X Y : Nat} (w : World) (hr : Rd .u32 w w.heap.size A n (digits X)) (hr' : Rd .u32 w w.heap.size A' n' (digits Y)) (hle : Y ≤ X) (hn : 3 ≤ n) (hnl : n ≤ 549755813888) (hnc : n ≤ c) (hc : c ≤ 9223372036854775807) :
    ∃ D, 0 < D ∧ X / D < 18446744073709551616 ∧ Calls Tryz.prog 140 #[.slice A n c, .slice A' n' c'] w (RetCo w (X / D) (Y / D)) := by
  obtain ⟨s, hs⟩ : ∃ s, s = 32 - blen ((digits X).getD (n - 1) 0) := ⟨_, rfl⟩
  obtain ⟨hs1, htx, hty, hly, hA1, hA2⟩ := lead_facts hr.len hn hle hs
  refine ⟨2 ^ (32 * (n - 2) - s), Nat.two_pow_pos _, hA1, ?_⟩
  have hly' : n' ≤ n := by rw [← hr'.len]; exact hly
  have H1 := Lib.hid (fun (W : World) (h : Rd .u32 W W.heap.size A n (digits X)) => window_any (c := c) W h (digits_w32 X) hn (Nat.le_refl _) hnl hs1 htx)
  have H2 := Lib.hid (fun (W : World) (h : Rd .u32 W W.heap.size A' n' (digits Y)) => window_any (c := c') W h (digits_w32 Y) hn hly' hnl hs1 hty)
  rw [val_digits] at H1 H2
  have HC0 := Lib.hid (Cos.start hA2)
  have hA2' : Y / 2 ^ (32 * (n - 2) - s) < 18446744073709551616 := Nat.lt_of_le_of_lt hA2 hA1
  generalize X / 2 ^ (32 * (n - 2) - s) = A1 at *
  generalize Y / 2 ^ (32 * (n - 2) - s) = A2 at *
  have hxl := (digits_w32 X).getD (n - 1)
  have H3 := Lib.hid (fun W => leadingZeros32_any ((digits X).getD (n - 1) 0) W hxl)
  rw [← hs] at H3
  clear hs htx hty hly
  obtain ⟨W, hW⟩ : ∃ W, W = w.alloc (.cells #[.int .u64 0, .int .u64 0, .int .u64 0, .int .u64 0, .bool false] 131) := ⟨_, rfl⟩
  have bW : Below w.heap.size w W := by rw [hW]; exact bone _ _
  have p4 : Cq W w.heap.size 0 0 0 0 false := by rw [hW]; exact Cq.new w 0 0 0 0 false
  replace hr := hr.call bW
  replace hr' := hr'.call bW
  have hr0 := hr
  obtain ⟨bx, ox, rfl, hbx, hcx⟩ := hr.at_ (j := n - 1) (by omega)
  generalize (digits X).getD (n - 1) 0 = top at *
  have k1 : (0 : Int) ≤ (n : Int) - 1 := by omega
  have k2 : (n : Int) - 1 < (n : Int) := by omega
  have k3 : ((n : Int) - 1).toNat = n - 1 := by omega
  go_enter Tryz.func140, Tryz.ntmps140
  go_upto_region 1 with (fail)
  rw [← hW]
  clear hW
  go_wp2_with fail
  refine (H3.out _).mono ?_
  rintro e W1 ⟨rfl, rfl⟩
  clear H3 hcx k1 k2 k3
  go_wp2_with fail
  refine (H1.out _ hr).mono ?_
  rintro e W2 ⟨rfl, d2⟩
  replace hr' := hr'.call d2
  replace p4 := p4.call d2
  replace bW := bthen bW d2
  clear H1 hr hr0 d2
  go_wp2_with fail
  refine (H2.out _ hr').mono ?_
  rintro e W3 ⟨rfl, d3⟩
  replace p4 := p4.call d3
  replace bW := bthen bW d3
  clear H2 hr' d3
  obtain ⟨W4, hW4⟩ : ∃ W4, W4 = W3.alloc (.cells #[.int .u64 0, .int .u64 0, .int .u64 0, .int .u64 0, .bool false] 131) := ⟨_, rfl⟩
  have b4 : Below W3.heap.size W3 W4 := by rw [hW4]; exact bone _ _
  have p9 : Cq W4 W3.heap.size 0 0 0 0 false := by rw [hW4]; exact Cq.new W3 0 0 0 0 false
  have hlt := p4.lt
  replace p4 := p4.call b4
  replace bW := bthen bW b4
  clear b4
  go_upto_region 5 with (fail)
  rw [← hW4]
  clear hW4
  generalize W3.heap.size = g9 at *
  have q1 := p9.s1 1
  have q3 := q1.s3 0
  have p4' := (p4.far (p := ⟨g9, 1, none⟩) (by simp; omega) (.int .u64 (1 : Nat))).far (p := ⟨g9, 3, none⟩) (by simp; omega) (.int .u64 (0 : Nat))
  have bW' := (bW.setCell (p := ⟨g9, 1, none⟩) (by simp; omega) (.int .u64 (1 : Nat))).setCell (p := ⟨g9, 3, none⟩) (by simp; omega) (.int .u64 (0 : Nat))
  have HE : Hid (CoS w ((W4.setCell ⟨g9, 1, none⟩ (.int .u64 1)).setCell ⟨g9, 3, none⟩ (.int .u64 0)) g9 A1 A2 A1 A2 0 1 0 0 0 1 false) := ⟨HC0.out, .inl rfl, p4', q3, bW'⟩
  obtain ⟨c0, c1, c2, c3, c4, f0, f1, f2, f3, f4⟩ := p9.all
  clear q1 q3 p4' bW' p4 bW p9
  go_wp2_with fail
  clear c0 c1 c2 c3 c4 f0 f1 f2 f3 f4
  go_loopw [7, 8, 10, 11, 12] (fun x y uu vv _ wr => ∃ a1 a2 u0 u1 u2 v0 v1 v2 : Nat, ∃ even : Bool, x = .int .u64 a1 ∧ y = .int .u64 a2 ∧ uu = .int .u64 u2 ∧ vv = .int .u64 v2 ∧ Hid (CoS w wr g9 A1 A2 a1 a2 u0 u1 u2 v0 v1 v2 even)) (fun _ y _ _ _ _ => (intOf y).toNat)
  case atStart => exact ⟨A1, A2, 0, 1, 0, 0, 0, 1, false, rfl, rfl, rfl, rfl, HE⟩
  case round =>
    clear HE
    obtain ⟨a1, a2, u0, u1, u2, v0, v1, v2, even, rfl, rfl, rfl, rfl, HS⟩ := hrel
    obtain ⟨hcos, hcot, p4, p9, bR⟩ := HS.out
    have HCO := Lib.hid hcos
    have HCT := Lib.hid hcot
    have le21 := hcos.le
    have v2p := hcos.v2pos
    have vmo := hcos.vmono
    have ha1 : a1 ≤ A1 := by
      have e := hcos.e1
      have : 1 * a1 ≤ v2 * a1 := Nat.mul_le_mul_right _ v2p
      omega
    clear HS hcos hcot
    obtain ⟨c0, c1, c2, c3, c4, f0, f1, f2, f3, f4⟩ := p9.all
    by_cases h1 : v2 ≤ a2
    · have hd1 : decide (v2 ≤ a2) = true := by simpa using h1
      have hd1' : decide ((v2 : Int) ≤ (a2 : Int)) = true := by simp; omega
      have hfit := HCO.out.fits h1
      have hv32 : v2 < 4294967296 := sq_lt (by omega)
      by_cases h2 : v1 + v2 ≤ a1 - a2
      · have hd2 : decide ((v1 : Int) + (v2 : Int) ≤ (a1 : Int) - (a2 : Int)) = true := by simp; omega
        obtain ⟨q, hq⟩ : ∃ q, a1 / a2 = q := ⟨_, rfl⟩
        obtain ⟨r, hr⟩ : ∃ r, a1 % a2 = r := ⟨_, rfl⟩
        have hrlt : r < a2 := by rw [← hr]; exact Nat.mod_lt _ (by omega)
        have e1 : (a1 : Int) / (a2 : Int) = (q : Int) := by rw [← hq]; exact (Int.natCast_ediv a1 a2).symm
        have e2 : (a1 : Int) % (a2 : Int) = (r : Int) := by rw [← hr]; exact (Int.natCast_emod a1 a2).symm
        have e2' : (a1 : Int).tmod (a2 : Int) = (r : Int) := by rw [Int.tmod_eq_emod_of_nonneg (by omega)]; exact e2
        have hqb : q ≤ a1 := by rw [← hq]; exact Nat.div_le_self _ _
        have e3 : IntKind.u64.wrap (q : Int) = (q : Int) := IntWalk.u64_in _ ⟨Int.natCast_nonneg _, by omega⟩
        have HST := Lib.hid (HCO.out.step h1)
        have HCT2 := Lib.hid (HCO.out.cot h1 h2)
        rw [hq] at hfit
        rw [hq, hr] at HST
        obtain ⟨qu, hqu⟩ : ∃ x, q * u2 = x := ⟨_, rfl⟩
        obtain ⟨qv, hqv⟩ : ∃ x, q * v2 = x := ⟨_, rfl⟩
        rw [hqu, hqv] at hfit
        rw [hqu, hqv] at HST
        have e4 : IntKind.u64.wrap ((q : Int) * (u2 : Int)) = (qu : Int) := by
          rw [show ((q : Int) * (u2 : Int)) = (qu : Int) by rw [← hqu]; push_cast; rfl]; exact IntWalk.u64_in _ ⟨Int.natCast_nonneg _, by omega⟩
        have e5 : IntKind.u64.wrap ((q : Int) * (v2 : Int)) = (qv : Int) := by
          rw [show ((q : Int) * (v2 : Int)) = (qv : Int) by rw [← hqv]; push_cast; rfl]; exact IntWalk.u64_in _ ⟨Int.natCast_nonneg _, by omega⟩
        have e6 : IntKind.u64.wrap ((u1 : Int) + (qu : Int)) = ((u1 + qu : Nat) : Int) := by rw [IntWalk.u64_in _ ⟨by omega, by omega⟩]; omega
        have e7 : IntKind.u64.wrap ((v1 : Int) + (qv : Int)) = ((v1 + qv : Nat) : Int) := by rw [IntWalk.u64_in _ ⟨by omega, by omega⟩]; omega
        have hb0 : ((a2 : Int) == 0) = false := by simp; omega
        generalize u1 + qu = nu at *
        generalize v1 + qv = nv at *
        clear hq hr hqu hqv HCO HCT
        go_upto_region 9 with (fail)
        go_quiet (fail)
        go_wp2
        go_roundw
        case rel =>
          refine ⟨a2, r, u1, u2, nu, v1, v2, nv, !even, rfl, rfl, rfl, rfl, HST.out, .inr ⟨_, _, HCT2.out⟩, ?_, ?_, ?_⟩
          · exact ((((p4.far (p := ⟨g9, 0, none⟩) (by simp; omega) (.int .u64 u1)).far (p := ⟨g9, 1, none⟩) (by simp; omega) (.int .u64 u2)).far (p := ⟨g9, 2, none⟩) (by simp; omega) (.int .u64 v1)).far (p := ⟨g9, 3, none⟩) (by simp; omega) (.int .u64 v2)).far (p := ⟨g9, 4, none⟩) (by simp; omega) (.bool (!even))
          · exact ((((p9.s0 u1).s1 u2).s2 v1).s3 v2).s4 (!even)
          · first | exact (((((bthen bR (below_drewN wr _)).setCell (p := ⟨g9, 0, none⟩) (by simp; omega) _).setCell (p := ⟨g9, 1, none⟩) (by simp; omega) _).setCell (p := ⟨g9, 2, none⟩) (by simp; omega) _).setCell (p := ⟨g9, 3, none⟩) (by simp; omega) _).setCell (p := ⟨g9, 4, none⟩) (by simp; omega) _ | exact bthen ((((((bR).setCell (p := ⟨g9, 0, none⟩) (by simp; omega) _).setCell (p := ⟨g9, 1, none⟩) (by simp; omega) _).setCell (p := ⟨g9, 2, none⟩) (by simp; omega) _).setCell (p := ⟨g9, 3, none⟩) (by simp; omega) _).setCell (p := ⟨g9, 4, none⟩) (by simp; omega) _) (below_drewN _ _)
        case measure => simp [intOf] <;> omega
      · have hd2 : decide ((v1 : Int) + (v2 : Int) ≤ (a1 : Int) - (a2 : Int)) = false := by simp; omega
        have HP := Lib.hid (((((p4.s0 u0).s1 u1).s2 v0).s3 v1).s4 even)
        obtain ⟨k0, k1, k2, k3, k4, l0, l1, l2, l3, l4⟩ := p4.all
        go_wp2
        obtain ⟨m0, m1, m2, m3, m4, _⟩ := HP.out.all
        refine bodyPost_ret (v := .agg #[.int .u64 u0, .int .u64 u1, .int .u64 v0, .int .u64 v1, .bool even]) (by simp [results, Tryz.results140, go_sem, m0, m1, m2, m3, m4]) rfl ?_
        exact ⟨u0, u1, v0, v1, even, rfl, HCT.out, ((((bR.setCell (Nat.le_refl _) _).setCell (Nat.le_refl _) _).setCell (Nat.le_refl _) _).setCell (Nat.le_refl _) _).setCell (Nat.le_refl _) _⟩
    · have hd1 : decide (v2 ≤ a2) = false := by simpa using h1
      have hd1' : decide ((v2 : Int) ≤ (a2 : Int)) = false := by simp; omega
      have HP := Lib.hid (((((p4.s0 u0).s1 u1).s2 v0).s3 v1).s4 even)
      obtain ⟨k0, k1, k2, k3, k4, l0, l1, l2, l3, l4⟩ := p4.all
      go_wp2
      obtain ⟨m0, m1, m2, m3, m4, _⟩ := HP.out.all
      refine bodyPost_ret (v := .agg #[.int .u64 u0, .int .u64 u1, .int .u64 v0, .int .u64 v1, .bool even]) (by simp [results, Tryz.results140, go_sem, m0, m1, m2, m3, m4]) rfl ?_
      exact ⟨u0, u1, v0, v1, even, rfl, HCT.out, ((((bR.setCell (Nat.le_refl _) _).setCell (Nat.le_refl _) _).setCell (Nat.le_refl _) _).setCell (Nat.le_refl _) _).setCell (Nat.le_refl _) _⟩
end Go.Proofs.YtociocengfjioaaGreatDoor
