/- Walks of bitLen, shift, half of the reference. -/
import Derived.Test.YtociocengfjioaaGreatDoorRefE
import Derived.StillTailTactics
namespace Go.Proofs.YtociocengfjioaaGreatDoor
open Go.RowKit
set_option linter.unusedVariables false

theorem blen_half {x : Nat} (h : x ≠ 0) : blen x = blen (x / 2) + 1 := by
  have := blen_div x 1 
  by_cases h1 : x = 1
  · subst h1; rfl
  · exact this (by omega)
theorem blen_top {v m : Nat} (h0 : v ≠ 0) (hm : (digits v).length = m) : blen v = 32 * (m - 1) + blen ((digits v).getD (m - 1) 0) := by
  have hl := digits_lt v
  have hg := digits_ge h0
  rw [hm] at hl hg
  have hm1 : 1 ≤ m := by
    rcases Nat.eq_zero_or_pos m with h | h
    · rw [h] at hm; have := (digits_nil_iff v).1 hm; omega
    · exact h
  have e1 : 4294967296 ^ (m - 1) = 2 ^ (32 * (m - 1)) := by rw [Nat.pow_mul]
  have hd := blen_div v (32 * (m - 1)) (by rw [← e1]; exact hg)
  rw [hd, Nat.add_comm]
  congr 2
  have hv : val (digits v) = val ((digits v).take (m - 1)) + 4294967296 ^ (m - 1) * (digits v).getD (m - 1) 0 := by
    have := val_take_succ (digits v) (m - 1)
    rw [List.take_of_length_le (by omega)] at this
    exact this
  rw [val_digits] at hv
  have hlt := val_lt ((digits_w32 v).take (m - 1))
  rw [List.length_take, hm, Nat.min_eq_left (by omega)] at hlt
  rw [← e1]
  generalize 4294967296 ^ (m - 1) = P at *
  generalize (digits v).getD (m - 1) 0 = top at *
  generalize val ((digits v).take (m - 1)) = low at *
  rw [hv, Nat.add_mul_div_left _ _ (by omega), Nat.div_eq_of_lt hlt, Nat.zero_add]

set_option maxRecDepth 100000 in
theorem refBitLen_any {A : Option Addr} {n c B : Nat} {xs : List Nat} (w : World) (hr : Rd .u32 w B A n xs) (hx : W32 xs) (hnc : n ≤ c) (hc : c ≤ 9223372036854775807) (hn : n ≤ 1099511627776) :
    Calls Tryz.prog 137 #[.slice A n c] w (RetW w (.int .i64 (blen (val xs) : Nat))) := by
  have HT := Lib.hid (refTrim_mag (c := c) w hr hx hnc hc)
  go_enter Tryz.func137, Tryz.ntmps137
  go_wp2_with fail
  refine HT.out.mono ?_
  rintro e w1 ⟨m, rfl, r1, hm, rfl⟩
  clear HT hr hx
  generalize val xs = v at *
  have km : m = 0 ↔ v = 0 := by rw [← r1.len]; exact digits_nil_iff v
  by_cases h0 : m = 0
  · obtain rfl := km.1 h0
    subst h0
    go_wp2
    go_ret
    exact ⟨rfl, rfl⟩
  · have hne : ((m : Int) == 0) = false := by simp; omega
    have HB := Lib.hid (blen_top (fun h => h0 (km.2 h)) r1.len)
    obtain ⟨b, off, rfl, _, hcell⟩ := r1.at_ (j := m - 1) (by omega)
    have htl := (digits_w32 v).getD (m - 1)
    generalize (digits v).getD (m - 1) 0 = top at *
    have i1 : (0 : Int) ≤ (m : Int) - 1 := by omega
    have i2 : (m : Int) - 1 < (m : Int) := by omega
    have i3 : ((m : Int) - 1).toNat = m - 1 := by omega
    have hbt : blen top ≤ 32 := blen_le (k := 32) htl
    clear km
    go_wp2_with fail
    go_loop [3, 4] (fun nv xv => ∃ y k : Nat, xv = .int .u32 y ∧ nv = .int .i64 ((32 * (m - 1) + k : Nat) : Int) ∧ y ≤ top ∧ k ≤ 32 ∧ Hid (blen top = k + blen y)) (fun _ xv => (intOf xv).toNat)
    case atStart => exact ⟨top, 0, rfl, by congr 1; omega, Nat.le_refl _, by omega, by unfold Hid; omega⟩
    case round =>
      obtain ⟨y, k, rfl, rfl, hy, hk, HK⟩ := hrel
      by_cases hy0 : y = 0
      · subst hy0
        have HF : Hid (32 * (m - 1) + k = blen v) := by unfold Hid; have h1 := HB.out; have h2 := HK.out; rw [blen_zero] at h2; omega
        rw [HF.out]
        go_wp2
        go_ret
        exact ⟨rfl, rfl⟩
      · have hy1 : decide (0 < (y : Int)) = true := by simp; omega
        have hy2 : 0 < y := by omega
        have HH := Lib.hid (blen_half hy0)
        have hk1 : k + 1 ≤ 32 := by have h1 := HK.out; have h2 := HH.out; omega
        go_wp2
        go_round
        case rel => exact ⟨y / 2, k + 1, by go_num, by go_num, by omega, by omega, by unfold Hid; have h1 := HK.out; have h2 := HH.out; omega⟩
        case measure => simp [intOf] <;> omega

theorem rshift_facts {x z t : Nat} (hx : x < 4294967296) (ht : t < 32) (hz : z < 2 ^ t) : ∃ p lo hi : Nat, IntKind.u64.wrap ((x : Int) * 2 ^ t) = (p : Int) ∧ p = x * 2 ^ t ∧ p < 18446744073709551616 ∧ lo = p % 4294967296 ∧ hi = p / 4294967296 ∧ bits .or .u32 (z : Int) (lo : Int) = ((z + lo : Nat) : Int) ∧ z + lo < 4294967296 ∧ hi < 2 ^ t := by
  have hp : 2 ^ t ≤ 2147483648 := Nat.pow_le_pow_right (by omega) (show t ≤ 31 by omega)
  have hb : x * 2 ^ t ≤ 4294967295 * 2147483648 := Nat.mul_le_mul (by omega) hp
  have hz2 : z < 4294967296 := by omega
  have hd : 4294967296 = 2 ^ t * 2 ^ (32 - t) := by rw [← Nat.pow_add, show t + (32 - t) = 32 by omega]
  have hm : x * 2 ^ t % 4294967296 % 2 ^ t = 0 := by rw [hd, Nat.mod_mul_right_mod, Nat.mul_mod_left]
  have hlo : x * 2 ^ t % 4294967296 < 4294967296 := Nat.mod_lt _ (by omega)
  have hj : z ||| (x * 2 ^ t % 4294967296) = z + x * 2 ^ t % 4294967296 := by rw [Nat.or_comm, nat_join t _ z hm hz]; omega
  have hlt : z ||| (x * 2 ^ t % 4294967296) < 4294967296 := Nat.or_lt_two_pow (n := 32) hz2 hlo
  refine ⟨x * 2 ^ t, _, _, ?_, rfl, by omega, rfl, rfl, ?_, by omega, ?_⟩
  · have e : ((x * 2 ^ t : Nat) : Int) = (x : Int) * 2 ^ t := by simp
    rw [← e]; exact IntWalk.u64_in _ ⟨Int.natCast_nonneg _, by omega⟩
  · rw [u32_or_nat z _ hz2 hlo, hj]
  · apply Nat.div_lt_of_lt_mul
    exact (Nat.mul_lt_mul_right (Nat.two_pow_pos t)).2 hx

theorem rshift_val {zs : List Nat} {p0 lo hi z V P2 X : Nat} (hl : p0 + 1 < zs.length) (hz : zs.getD p0 0 = z) (hz1 : zs.getD (p0 + 1) 0 = 0) (hV : val zs = V * P2) (hP : 4294967296 ^ p0 * (lo + 4294967296 * hi) = X * P2) :
    val ((zs.set p0 (z + lo)).set (p0 + 1) hi) = (V + X) * P2 := by
  have e1 := val_set zs p0 (z + lo) (by omega)
  rw [hz] at e1
  have e2 := val_set (zs.set p0 (z + lo)) (p0 + 1) hi (by rw [List.length_set]; exact hl)
  rw [List.getD_eq_getElem?_getD, List.getElem?_set_ne (by omega), ← List.getD_eq_getElem?_getD, hz1, Nat.mul_zero, Nat.add_zero] at e2
  rw [e2, Nat.pow_succ, Nat.add_mul, ← hV, ← hP]
  rw [Nat.mul_add] at e1
  have e3 : 4294967296 ^ p0 * (lo + 4294967296 * hi) = 4294967296 ^ p0 * lo + 4294967296 ^ p0 * 4294967296 * hi := by rw [Nat.mul_add, Nat.mul_assoc]
  rw [e3]
  omega

set_option maxHeartbeats 1000000 in
set_option maxRecDepth 100000 in
theorem refShift_new {A : Option Addr} {n c k : Nat} {xs : List Nat} (w : World) (hr : Rd .u32 w w.heap.size A n xs) (hx : W32 xs) (hn : n ≤ 274877906944) (hk : k ≤ 274877906944) :
    Calls Tryz.prog 138 #[.slice A n c, .int .i64 k] w (RetMagN w (val xs * 2 ^ k)) := by
  have HL := Lib.hid hr.len
  have HX := Lib.hid hx
  clear hx
  obtain ⟨k0, t, hk0, ht, hkt⟩ : ∃ k0 t : Nat, k / 32 = k0 ∧ k % 32 = t ∧ k = 32 * k0 + t := ⟨_, _, rfl, rfl, by omega⟩
  have q1 : (k : Int).tdiv 32 = (k0 : Int) := by rw [Int.tdiv_eq_ediv_of_nonneg (by omega)]; omega
  have q2 : (k : Int) / 32 = (k0 : Int) := by omega
  have q3 : (k : Int).tmod 32 = (t : Int) := by rw [Int.tmod_eq_emod_of_nonneg (by omega)]; omega
  have q4 : (k : Int) % 32 = (t : Int) := by omega
  have ht32 : t < 32 := by omega
  have hk0b : k0 ≤ 274877906944 := by omega
  have HP : Hid (2 ^ k = 4294967296 ^ k0 * 2 ^ t) := by unfold Hid; rw [hkt, Nat.pow_add, Nat.pow_mul]
  clear hk0 ht hkt hk
  go_enter Tryz.func138, Tryz.ntmps138
  go_wp2_with (at_make; refine wpList_make_lst (kx := .i64) (ky := .i64) (n := n + k0 + 1) (c := n + k0 + 1) Tryz.elemU32 Tryz.underlying22 rfl rfl (congrArg (Value.int .i64) (by omega)) (congrArg (Value.int .i64) (by omega)) (Nat.le_refl _) (by omega) (by omega) ?_)
  intro w1 B1 b1 l1
  generalize hg : w.heap.size = g at *
  have HG := Lib.hid hg
  clear hg
  have r1 := hr.below b1
  clear hr l1
  go_wp2_with fail
  go_loopw [6, 7] (fun i _ wr => ∃ (j : Nat) (zs : List Nat), j ≤ n ∧ i = .int .i64 j ∧ Hid (zs.length = n + k0 + 1) ∧ Hid (W32 zs) ∧ Hid (val zs = val (xs.take j) * 2 ^ k) ∧ Hid (zs.getD (k0 + j) 0 < 2 ^ t) ∧ Hid (∀ i, k0 + j < i → zs.getD i 0 = 0) ∧ Buf .u32 86 wr g zs ∧ Rd .u32 wr g A n xs ∧ Below g w wr) (fun i _ _ => n - (intOf i).toNat)
  case atStart => exact ⟨0, _, by omega, rfl, by simp [Hid], W32.rep _, by rw [val_rep, List.take_zero]; simp [val, Hid], by rw [List.getD_eq_getElem?_getD]; simp only [List.getElem?_replicate]; split <;> exact Nat.two_pow_pos t, fun j _ => by rw [List.getD_eq_getElem?_getD]; simp only [List.getElem?_replicate]; split <;> rfl, B1, r1, b1⟩
  case round =>
    obtain ⟨j, zs, hj, rfl, hzl, hzw, HV, HZ, HZ0, hB, q, hb⟩ := hrel
    clear B1 r1 b1
    by_cases hlt : j < n
    · obtain ⟨b1, o1, rfl, hb1, hc1⟩ := q.at_ hlt
      have hxl := HX.out.getD j
      have hc : wr.cell? ⟨g, j + k0, none⟩ = some (.int .u32 ((zs.getD (k0 + j) 0 : Nat) : Int)) := by
        have h := hB.cell (i := k0 + j) (by rw [hzl.out]; omega)
        rw [Nat.add_comm k0 j] at h ⊢; exact h
      have hc' : wr.cell? ⟨g, j + k0 + 1, none⟩ = some (.int .u32 ((zs.getD (k0 + j + 1) 0 : Nat) : Int)) := by
        have h := hB.cell (i := k0 + j + 1) (by rw [hzl.out]; omega)
        rw [Nat.add_comm k0 j] at h ⊢; exact h
      have hf := hB.frozen (j + k0)
      have hf' := hB.frozen (j + k0 + 1)
      obtain ⟨p, lo, hi, e1, ep, hpb, elo, ehi, e2, hlo, hhi⟩ := rshift_facts hxl ht32 HZ.out
      have HVS := Lib.hid (val_take_succ xs j)
      have HN : Hid (val ((zs.set (k0 + j) (zs.getD (k0 + j) 0 + lo)).set (k0 + j + 1) hi) = val (xs.take (j + 1)) * 2 ^ k) := by
        unfold Hid
        rw [HVS.out]
        refine rshift_val (by rw [hzl.out]; omega) rfl (HZ0.out _ (by omega)) HV.out ?_
        rw [HP.out, elo, ehi, Nat.mod_add_div, ep, Nat.pow_add]
        generalize 4294967296 ^ k0 = a1
        generalize 4294967296 ^ j = a2
        generalize xs.getD j 0 = a3
        generalize 2 ^ t = a4
        simp only [Nat.mul_comm, Nat.mul_left_comm]
      have HHI := Lib.hid hhi
      have helo : (p : Int) % 4294967296 = (lo : Int) := by omega
      have hehi : (p : Int) / 4294967296 = (hi : Int) := by omega
      have hib : hi < 4294967296 := Nat.lt_of_lt_of_le hhi (Nat.le_trans (Nat.pow_le_pow_right (by omega) (show t ≤ 31 by omega)) (by decide))
      clear ep elo ehi hhi
      generalize xs.getD j 0 = x at *
      generalize zs.getD (k0 + j + 1) 0 = z1 at *
      obtain ⟨z, hz⟩ : ∃ z, z = zs.getD (k0 + j) 0 := ⟨_, rfl⟩
      rw [← hz] at hc e2 HN hlo HZ
      clear hz
      go_wp2
      go_roundw
      case rel =>
        refine ⟨j + 1, (zs.set (k0 + j) (z + lo)).set (k0 + j + 1) hi, by omega, by go_num, ?_, (hzw.out.set _ hlo).set _ hib, HN, ?_, ?_, ?_, (q.setCell (Nat.le_refl _) _).setCell (Nat.le_refl _) _, (hb.setCell (Nat.le_refl _) _).setCell (Nat.le_refl _) _⟩
        · unfold Hid; rw [List.length_set, List.length_set]; exact hzl.out
        · unfold Hid
          rw [show k0 + (j + 1) = k0 + j + 1 by omega, List.getD_eq_getElem?_getD, List.getElem?_set_self (by rw [List.length_set, hzl.out]; omega)]
          exact HHI.out
        · intro i hi
          rw [List.getD_eq_getElem?_getD, List.getElem?_set_ne (by omega), List.getElem?_set_ne (by omega), ← List.getD_eq_getElem?_getD]
          exact HZ0.out i (by omega)
        · rw [Nat.add_comm k0 j]
          exact (hB.setZ (j + k0) (by omega)).setZ (j + k0 + 1) (by omega)
      case measure => simp [intOf] <;> omega
    · obtain rfl : j = n := by omega
      have hv : val zs = val xs * 2 ^ k := by rw [HV.out, List.take_of_length_le (by rw [HL.out]; omega)]
      have HT := Lib.hid (trimEnd (w := w) (c := j + k0 + 1) hB hzl.out hzw.out hv (by rw [HG.out]; exact hb) (Nat.le_refl _) (by omega) HG.out)
      clear hv
      go_wp2_with fail
      refine HT.out.mono ?_
      rintro e w3 ⟨⟨A1, n1, c1, rfl, h1⟩, rfl⟩
      have H1 := Lib.hid h1
      clear h1
      clear HT
      go_wp2
      go_ret
      exact ⟨A1, n1, c1, rfl, H1.out⟩

theorem half_word (x y : Nat) (hx : x < 4294967296) (hy : y < 4294967296) : bits .or .u32 ((x / 2 : Nat) : Int) (((y * 2147483648) % 4294967296 : Nat) : Int) = (((x + 4294967296 * y) / 2 ^ 1 % 4294967296 : Nat) : Int) := by
  have e1 : (x + 4294967296 * y) / 2 ^ 1 % 4294967296 = x / 2 + y % 2 * 2147483648 := by omega
  have e2 : y * 2147483648 % 4294967296 = y % 2 * 2147483648 := by omega
  rw [e1, e2, u32_or_nat (x / 2) (y % 2 * 2147483648) (by omega) (by omega), Nat.or_comm, nat_join 31 (y % 2 * 2147483648) (x / 2) (Nat.mul_mod_left (y % 2) 2147483648) (show x / 2 < 2147483648 by omega)]
  omega
theorem take_shrL {xs ds : List Nat} {k : Nat} (s : Nat) (hk : k < xs.length) (h : ds = (shrL s xs).take k) : ds ++ [(xs.getD k 0 + 4294967296 * xs.getD (k + 1) 0) / 2 ^ s % 4294967296] = (shrL s xs).take (k + 1) := by
  rw [take_getD _ k (by rw [shrL_len]; exact hk), h, shrL_get s xs k hk]

set_option maxHeartbeats 1000000 in
set_option maxRecDepth 100000 in
theorem refHalf_new {A : Option Addr} {n c : Nat} {xs : List Nat} (w : World) (hr : Rd .u32 w w.heap.size A n xs) (hx : W32 xs) (hn : n ≤ 274877906944) :
    Calls Tryz.prog 139 #[.slice A n c] w (RetMagN w (val xs / 2)) := by
  have HL := Lib.hid hr.len
  have HX := Lib.hid hx
  clear hx
  go_enter Tryz.func139, Tryz.ntmps139
  go_wp2_with (at_make; refine wpList_make_lst (kx := .i64) (ky := .i64) (n := n) (c := n) Tryz.elemU32 Tryz.underlying22 rfl rfl rfl rfl (Nat.le_refl _) (by omega) (by omega) ?_)
  intro w1 B1 b1 l1
  rw [← fill_nil] at B1
  generalize hg : w.heap.size = g at *
  have HG := Lib.hid hg
  clear hg
  have r1 := hr.below b1
  clear hr l1
  go_wp2_with fail
  go_loopw [4] (fun i wr => ∃ (k : Nat) (ds : List Nat), k ≤ n ∧ i = .int .i64 k ∧ Hid (ds.length = k) ∧ Hid (ds = (shrL 1 xs).take k) ∧ Buf .u32 86 wr g (fill ds n) ∧ Rd .u32 wr g A n xs ∧ Below g w wr) (fun i _ => n - (intOf i).toNat)
  case atStart => exact ⟨0, [], by omega, rfl, rfl, rfl, B1, r1, b1⟩
  case round =>
    obtain ⟨k, ds, hk, rfl, hdl, HD, hB, q, hb⟩ := hrel
    clear B1 r1 b1
    by_cases hlt : k < n
    · obtain ⟨b1, o1, rfl, hb1, hc1⟩ := q.at_ hlt
      have hxl := HX.out.getD k
      have hyl := HX.out.getD (k + 1)
      have hc : wr.cell? ⟨g, k, none⟩ = some (.int .u32 (((fill ds n).getD k 0 : Nat) : Int)) := hB.cell (by rw [fill_len (by rw [hdl.out]; omega)]; omega)
      have hf := hB.frozen k
      have HSET := Lib.hid (fun d => fill_set d hlt hdl.out)
      have HLEN : Hid (∀ d, (ds ++ [d]).length = k + 1) := fun d => by rw [List.length_append, hdl.out]; rfl
      have HT := Lib.hid (take_shrL 1 (by rw [HL.out]; exact hlt) HD.out)
      have HG1 := Lib.hid (digit_any (c := c) (i := k + 1) wr.drew (q.drew) HX.out (by omega))
      obtain ⟨hv, hve⟩ : ∃ hv, hv = (xs.getD k 0 + 4294967296 * xs.getD (k + 1) 0) / 2 ^ 1 % 4294967296 := ⟨_, rfl⟩
      have hw := half_word (xs.getD k 0) (xs.getD (k + 1) 0) hxl hyl
      rw [← hve] at hw HT
      have hvl : hv < 4294967296 := by rw [hve]; exact Nat.mod_lt _ (by omega)
      clear hve
      generalize xs.getD k 0 = x at *
      generalize xs.getD (k + 1) 0 = y at *
      generalize (fill ds n).getD k 0 = old at *
      have i1 : (0 : Int) ≤ (k : Int) := by omega
      have i2 : (k : Int) < (n : Int) := by omega
      have iw : IntKind.i64.wrap ((k : Int) + 1) = (k : Int) + 1 := IntWalk.i64_in _ (by omega)
      rw [show ((k + 1 : Nat) : Int) = (k : Int) + 1 by omega] at HG1
      go_wp2_with fail
      go_still_tail 15, (by kernel_rfl)
      repeat still_step
      still_call (HG1.out.mono (fun e w'' h => ⟨h.1, h.2.symm⟩))
      repeat still_step
      refine wpStill_nil ?_
      change wpList _ _ _ _ _ wr.drew
      have HW : Hid (bits .or .u32 ((x : Int) / 2) ((y : Int) * 2147483648 % 4294967296) = (hv : Int)) := by unfold Hid; simpa using hw
      clear iw hw
      go_wp2_with fail
      go_roundw
      case rel =>
        refine ⟨k + 1, ds ++ [hv], by omega, by go_num, HLEN.out _, HT, ?_, (q.setCell (Nat.le_refl _) _).drew, (hb.setCell (Nat.le_refl _) _).drew⟩
        rw [← HSET.out]; exact (hB.setZ k HW.out).drew
      case measure => simp [intOf] <;> omega
    · obtain rfl : k = n := by omega
      rw [fill_full hdl.out] at hB
      have hds : ds = shrL 1 xs := by rw [HD.out, List.take_of_length_le (by rw [shrL_len, HL.out]; omega)]
      have hv : val ds = val xs / 2 := by rw [hds, shrL_val 1 (by omega) xs HX.out]
      have hdw : W32 ds := by rw [hds]; exact shrL_w32 1 xs
      have HT := Lib.hid (trimEnd (w := w) (c := k) hB hdl.out hdw hv (by rw [HG.out]; exact hb) (Nat.le_refl _) (by omega) HG.out)
      clear hv hds hdw
      go_wp2_with fail
      refine HT.out.mono ?_
      rintro e w3 ⟨⟨A1, n1, c1, rfl, h1⟩, rfl⟩
      have H1 := Lib.hid h1
      clear h1
      clear HT
      go_wp2
      go_ret
      exact ⟨A1, n1, c1, rfl, H1.out⟩
theorem refShift_any {A : Option Addr} {n c k : Nat} {xs : List Nat} (w : World) (hr : Rd .u32 w w.heap.size A n xs) (hx : W32 xs) (hn : n ≤ 274877906944) (hk : k ≤ 274877906944) :
    Calls Tryz.prog 138 #[.slice A n c, .int .i64 k] w (RetMag w (val xs * 2 ^ k)) := (refShift_new w hr hx hn hk).mono fun _ _ h => h.old
theorem refHalf_any {A : Option Addr} {n c : Nat} {xs : List Nat} (w : World) (hr : Rd .u32 w w.heap.size A n xs) (hx : W32 xs) (hn : n ≤ 274877906944) :
    Calls Tryz.prog 139 #[.slice A n c] w (RetMag w (val xs / 2)) := (refHalf_new w hr hx hn).mono fun _ _ h => h.old
end Go.Proofs.YtociocengfjioaaGreatDoor
