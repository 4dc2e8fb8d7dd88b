/- Walk of combine: x u - y v. -/
import Derived.Test.YtociocengfjioaaGreatDoorGcdPlain
import Derived.Test.YtociocengfjioaaGreatDoorDivMag
namespace Go.Proofs.YtociocengfjioaaGreatDoor
open Go.RowKit
set_option linter.unusedVariables false

theorem and_low (c : Nat) (h : c < 18446744073709551616) : bits .and .u64 (c : Int) 4294967295 = ((c % 4294967296 : Nat) : Int) := by
  have := u64_and_nat c 4294967295 h (by omega)
  have e2 : c &&& 4294967295 = c % 4294967296 := Nat.and_two_pow_sub_one_eq_mod _ 32
  rw [e2] at this
  exact this
theorem comb_word (l m br : Nat) (hl : l < 4294967296) (hm : m < 4294967296) (hbr : br ≤ 1) : ((l : Int) - (m : Int) - (br : Int)) % 4294967296 = (((l + 4294967296 + 4294967296 - m - br) % 4294967296 : Nat) : Int) := by omega
theorem comb_next {P uX vY d q br p ux vy p1 q1 : Nat} (h : uX + P * q + P * br = d + vY + P * p) (hbr : br ≤ 1) (hp : p1 = p + ux) (hq : q1 = q + vy) :
    (uX + P * ux) + P * 4294967296 * (q1 / 4294967296) + P * 4294967296 * (if p1 % 4294967296 < q1 % 4294967296 + br then 1 else 0) =
      (d + P * ((p1 % 4294967296 + 4294967296 + 4294967296 - q1 % 4294967296 - br) % 4294967296)) + (vY + P * vy) + P * 4294967296 * (p1 / 4294967296) := by
  subst hp hq
  exact comb_step h hbr
theorem mul_take (u : Nat) (xs : List Nat) (k : Nat) : u * val (xs.take (k + 1)) = u * val (xs.take k) + 4294967296 ^ k * (u * xs.getD k 0) := by
  rw [val_take_succ, Nat.mul_add]
  congr 1
  rw [← Nat.mul_assoc, Nat.mul_comm u, Nat.mul_assoc]

set_option maxHeartbeats 4000000 in
set_option maxRecDepth 100000 in
theorem combine_any {A A' : Option Addr} {n n' c c' u v R : Nat} {xs ys : List Nat} (w : World) (hr : Rd .u32 w w.heap.size A n xs) (hr' : Rd .u32 w w.heap.size A' n' ys) (hx : W32 xs) (hy : W32 ys) (hn : n ≤ 549755813888) (hn' : n' ≤ 549755813888)
    (hu : u < 4294967296) (hv : v < 4294967296) (hR : u * val xs = R + v * val ys) (hRn : R < 4294967296 ^ (max n n')) :
    Calls Tryz.prog 141 #[.slice A n c, .int .u64 u, .slice A' n' c', .int .u64 v] w (RetMag w R) := by
  have HL := Lib.hid hr.len
  have HL' := Lib.hid hr'.len
  have HX := Lib.hid hx
  have HY := Lib.hid hy
  have HR := Lib.hid hR
  obtain ⟨N, hN, hN0, hN1, hN2, hN3⟩ : ∃ N : Nat, max n n' = N ∧ max (n : Int) (n' : Int) = (N : Int) ∧ n ≤ N ∧ n' ≤ N ∧ N ≤ 549755813888 := ⟨max n n', rfl, by omega, by omega, by omega, by omega⟩
  rw [hN] at hRn
  have HRN := Lib.hid hRn
  have HNE := Lib.hid hN
  clear hx hy hR hRn hN
  go_enter Tryz.func141, Tryz.ntmps141
  go_wp2_with (at_make; refine wpList_make_lst (kx := .i64) (ky := .i64) (n := N) (c := N) Tryz.elemU32 Tryz.underlying22 rfl rfl (congrArg (Value.int .i64) (by first | rfl | omega)) (congrArg (Value.int .i64) (by first | rfl | omega)) (Nat.le_refl _) (by omega) (by omega) ?_)
  all_goals
    intro w1 B1 b1 l1
    rw [← fill_nil] at B1
    generalize hg : w.heap.size = g at *
    have HG := Lib.hid hg
    clear hg
    have r1 := hr.below b1
    have r1' := hr'.below b1
    clear hr hr' l1
    first | rw [show (n' : Int) = (N : Int) by omega] | rw [show (n : Int) = (N : Int) by omega] | skip
    clear hN0
    (try clear h)
    go_wp2_with fail
    go_loopw [11, 12, 13, 14, 15, 24] (fun pv qv bv _ _ i wr => ∃ (k p q br : Nat) (ds : List Nat), k ≤ N ∧ i = .int .i64 k ∧ pv = .int .u64 p ∧ qv = .int .u64 q ∧ bv = .int .i64 br ∧ p < 4294967296 ∧ q < 4294967296 ∧ br ≤ 1 ∧ Hid (ds.length = k) ∧ Hid (W32 ds) ∧ Hid (u * val (xs.take k) + 4294967296 ^ k * q + 4294967296 ^ k * br = val ds + v * val (ys.take k) + 4294967296 ^ k * p) ∧ Buf .u32 86 wr g (fill ds N) ∧ Rd .u32 wr g A n xs ∧ Rd .u32 wr g A' n' ys ∧ Below g w wr) (fun _ _ _ _ _ i _ => N - (intOf i).toNat)
    case atStart => exact ⟨0, 0, 0, 0, [], by omega, rfl, rfl, rfl, rfl, by omega, by omega, by omega, rfl, W32.nil, by simp [Hid, val], B1, r1, r1', b1⟩
    case round =>
      obtain ⟨k, p, q, br, ds, hk, rfl, rfl, rfl, rfl, hp, hq, hbr, hdl, hdw, HV, hB, qx, qy, hb⟩ := hrel
      clear B1 r1 r1' b1
      by_cases hlt : k < N
      · have hxl := HX.out.getD k
        have hyl := HY.out.getD k
        have hc : wr.cell? ⟨g, k, none⟩ = some (.int .u32 (((fill ds N).getD k 0 : Nat) : Int)) := hB.cell (by rw [fill_len (by rw [hdl.out]; omega)]; omega)
        have hf := hB.frozen k
        have HMX := Lib.hid (mul_take u xs k)
        have HMY := Lib.hid (mul_take v ys k)
        have HSET := Lib.hid (fun d => fill_set d hlt hdl.out)
        have HLEN : Hid (∀ d, (ds ++ [d]).length = k + 1) := fun d => by rw [List.length_append, hdl.out]; rfl
        have HVAL : Hid (∀ d, val (ds ++ [d]) = val ds + 4294967296 ^ k * d) := fun d => by rw [val_snoc, hdl.out]
        have i1 : (0 : Int) ≤ (k : Int) := by omega
        have i2 : (k : Int) < (N : Int) := by omega
        by_cases hx1 : k < n
        · by_cases hy1 : k < n'
          · obtain ⟨bx, ox, rfl, hbx, hcx⟩ := qx.at_ hx1
            obtain ⟨px, p1, lo, e1, e2, e3, hp1, hlo, hpd⟩ := muls_facts hu hxl hp
            obtain ⟨by1, oy, rfl, hby, hcy⟩ := qy.at_ hy1
            obtain ⟨py, q1, mo, f1, f2, f3, hq1, hmo, hqd⟩ := muls_facts hv hyl hq
            have HVS := Lib.hid (comb_next HV.out hbr hp1 hq1)
            rw [← HMX.out, ← HMY.out, ← Nat.pow_succ, ← hlo, ← hmo] at HVS
            have hlol : lo < 4294967296 := by omega
            have hmol : mo < 4294967296 := by omega
            have HW := Lib.hid (comb_word lo mo br hlol hmol hbr)
            have HPD := Lib.hid hpd
            have HQD := Lib.hid hqd
            have hp64 : p1 < 18446744073709551616 := by omega
            have hq64 : q1 < 18446744073709551616 := by omega
            generalize xs.getD k 0 = x at *
            generalize ys.getD k 0 = y at *
            generalize (fill ds N).getD k 0 = old at *
            clear hlo hmo hp1 hq1 HMX HMY hpd hqd
            by_cases hbt : lo < mo + br
            · rw [if_pos hbt] at HVS
              have hd : decide ((lo : Int) - (mo : Int) - (br : Int) < 0) = true := by simp; omega
              clear hp64 hq64
              go_wp2
              go_roundw
              case rel =>
                refine ⟨k + 1, p1 / 4294967296, q1 / 4294967296, 1, ds ++ [(lo + 4294967296 + 4294967296 - mo - br) % 4294967296], by omega, by go_num, by go_num, by go_num, rfl, HPD.out, HQD.out, by omega, HLEN.out _, hdw.out.append (W32.mk (by omega) W32.nil), ?_, ?_, qx.setCell (Nat.le_refl _) _, qy.setCell (Nat.le_refl _) _, hb.setCell (Nat.le_refl _) _⟩
                · unfold Hid; rw [HVAL.out]; exact HVS.out
                · rw [← HSET.out]; exact hB.setZ k (by first | exact HW.out | omega)
              case measure => simp [intOf] <;> omega
            · rw [if_neg hbt] at HVS
              have hd : decide ((lo : Int) - (mo : Int) - (br : Int) < 0) = false := by simp; omega
              clear hp64 hq64
              go_wp2
              go_roundw
              case rel =>
                refine ⟨k + 1, p1 / 4294967296, q1 / 4294967296, 0, ds ++ [(lo + 4294967296 + 4294967296 - mo - br) % 4294967296], by omega, by go_num, by go_num, by go_num, rfl, HPD.out, HQD.out, by omega, HLEN.out _, hdw.out.append (W32.mk (by omega) W32.nil), ?_, ?_, qx.setCell (Nat.le_refl _) _, qy.setCell (Nat.le_refl _) _, hb.setCell (Nat.le_refl _) _⟩
                · unfold Hid; rw [HVAL.out]; exact HVS.out
                · rw [← HSET.out]; exact hB.setZ k (by first | exact HW.out | omega)
              case measure => simp [intOf] <;> omega
          · obtain ⟨bx, ox, rfl, hbx, hcx⟩ := qx.at_ hx1
            obtain ⟨px, p1, lo, e1, e2, e3, hp1, hlo, hpd⟩ := muls_facts hu hxl hp
            have hy0 : ys.getD k 0 = 0 := getD_beyond ys k (by rw [HL'.out]; omega)
            simp only [hy0, Nat.mul_zero, Nat.add_zero] at HMY
            have f3 := and_low q (by omega)
            obtain ⟨mo, hmo⟩ : ∃ mo, mo = q % 4294967296 := ⟨_, rfl⟩
            rw [← hmo] at f3
            have hqd : q / 4294967296 < 4294967296 := by omega
            have HVS := Lib.hid (comb_next HV.out hbr hp1 (show q = q + 0 by omega))
            simp only [Nat.mul_zero, Nat.add_zero] at HVS
            rw [← HMX.out, ← HMY.out, ← Nat.pow_succ, ← hlo, ← hmo] at HVS
            have hlol : lo < 4294967296 := by omega
            have hmol : mo < 4294967296 := by omega
            have HW := Lib.hid (comb_word lo mo br hlol hmol hbr)
            have HPD := Lib.hid hpd
            have HQD := Lib.hid hqd
            have hp64 : p1 < 18446744073709551616 := by omega
            have hq64 : q < 18446744073709551616 := by omega
            generalize xs.getD k 0 = x at *
            generalize (fill ds N).getD k 0 = old at *
            clear hlo hmo hp1 hy0 HMX HMY hpd hqd
            by_cases hbt : lo < mo + br
            · rw [if_pos hbt] at HVS
              have hd : decide ((lo : Int) - (mo : Int) - (br : Int) < 0) = true := by simp; omega
              clear hp64 hq64
              go_wp2
              go_roundw
              case rel =>
                refine ⟨k + 1, p1 / 4294967296, q / 4294967296, 1, ds ++ [(lo + 4294967296 + 4294967296 - mo - br) % 4294967296], by omega, by go_num, by go_num, by go_num, rfl, HPD.out, HQD.out, by omega, HLEN.out _, hdw.out.append (W32.mk (by omega) W32.nil), ?_, ?_, qx.setCell (Nat.le_refl _) _, qy.setCell (Nat.le_refl _) _, hb.setCell (Nat.le_refl _) _⟩
                · unfold Hid; rw [HVAL.out]; exact HVS.out
                · rw [← HSET.out]; exact hB.setZ k (by first | exact HW.out | omega)
              case measure => simp [intOf] <;> omega
            · rw [if_neg hbt] at HVS
              have hd : decide ((lo : Int) - (mo : Int) - (br : Int) < 0) = false := by simp; omega
              clear hp64 hq64
              go_wp2
              go_roundw
              case rel =>
                refine ⟨k + 1, p1 / 4294967296, q / 4294967296, 0, ds ++ [(lo + 4294967296 + 4294967296 - mo - br) % 4294967296], by omega, by go_num, by go_num, by go_num, rfl, HPD.out, HQD.out, by omega, HLEN.out _, hdw.out.append (W32.mk (by omega) W32.nil), ?_, ?_, qx.setCell (Nat.le_refl _) _, qy.setCell (Nat.le_refl _) _, hb.setCell (Nat.le_refl _) _⟩
                · unfold Hid; rw [HVAL.out]; exact HVS.out
                · rw [← HSET.out]; exact hB.setZ k (by first | exact HW.out | omega)
              case measure => simp [intOf] <;> omega
        · by_cases hy1 : k < n'
          · have hx0 : xs.getD k 0 = 0 := getD_beyond xs k (by rw [HL.out]; omega)
            simp only [hx0, Nat.mul_zero, Nat.add_zero] at HMX
            have e3 := and_low p (by omega)
            obtain ⟨lo, hlo⟩ : ∃ lo, lo = p % 4294967296 := ⟨_, rfl⟩
            rw [← hlo] at e3
            have hpd : p / 4294967296 < 4294967296 := by omega
            obtain ⟨by1, oy, rfl, hby, hcy⟩ := qy.at_ hy1
            obtain ⟨py, q1, mo, f1, f2, f3, hq1, hmo, hqd⟩ := muls_facts hv hyl hq
            have HVS := Lib.hid (comb_next HV.out hbr (show p = p + 0 by omega) hq1)
            simp only [Nat.mul_zero, Nat.add_zero] at HVS
            rw [← HMX.out, ← HMY.out, ← Nat.pow_succ, ← hlo, ← hmo] at HVS
            have hlol : lo < 4294967296 := by omega
            have hmol : mo < 4294967296 := by omega
            have HW := Lib.hid (comb_word lo mo br hlol hmol hbr)
            have HPD := Lib.hid hpd
            have HQD := Lib.hid hqd
            have hp64 : p < 18446744073709551616 := by omega
            have hq64 : q1 < 18446744073709551616 := by omega
            generalize ys.getD k 0 = y at *
            generalize (fill ds N).getD k 0 = old at *
            clear hlo hmo hx0 hq1 HMX HMY hpd hqd
            by_cases hbt : lo < mo + br
            · rw [if_pos hbt] at HVS
              have hd : decide ((lo : Int) - (mo : Int) - (br : Int) < 0) = true := by simp; omega
              clear hp64 hq64
              go_wp2
              go_roundw
              case rel =>
                refine ⟨k + 1, p / 4294967296, q1 / 4294967296, 1, ds ++ [(lo + 4294967296 + 4294967296 - mo - br) % 4294967296], by omega, by go_num, by go_num, by go_num, rfl, HPD.out, HQD.out, by omega, HLEN.out _, hdw.out.append (W32.mk (by omega) W32.nil), ?_, ?_, qx.setCell (Nat.le_refl _) _, qy.setCell (Nat.le_refl _) _, hb.setCell (Nat.le_refl _) _⟩
                · unfold Hid; rw [HVAL.out]; exact HVS.out
                · rw [← HSET.out]; exact hB.setZ k (by first | exact HW.out | omega)
              case measure => simp [intOf] <;> omega
            · rw [if_neg hbt] at HVS
              have hd : decide ((lo : Int) - (mo : Int) - (br : Int) < 0) = false := by simp; omega
              clear hp64 hq64
              go_wp2
              go_roundw
              case rel =>
                refine ⟨k + 1, p / 4294967296, q1 / 4294967296, 0, ds ++ [(lo + 4294967296 + 4294967296 - mo - br) % 4294967296], by omega, by go_num, by go_num, by go_num, rfl, HPD.out, HQD.out, by omega, HLEN.out _, hdw.out.append (W32.mk (by omega) W32.nil), ?_, ?_, qx.setCell (Nat.le_refl _) _, qy.setCell (Nat.le_refl _) _, hb.setCell (Nat.le_refl _) _⟩
                · unfold Hid; rw [HVAL.out]; exact HVS.out
                · rw [← HSET.out]; exact hB.setZ k (by first | exact HW.out | omega)
              case measure => simp [intOf] <;> omega
          · exfalso; have := HNE.out; omega
      · obtain rfl : k = N := by omega
        rw [fill_full hdl.out] at hB
        have hvd : val ds = R := by
          have h := HV.out
          rw [List.take_of_length_le (by rw [HL.out]; omega), List.take_of_length_le (by rw [HL'.out]; omega)] at h
          have hl := val_lt hdw.out
          rw [hdl.out] at hl
          exact comb_end h hl HR.out HRN.out
        have hrd := hB.rd
        rw [hdl.out] at hrd
        have htr := trim_any (c := k) _ hrd hdw.out (Nat.le_refl _) (by omega)
        have HT := Lib.hid htr
        have HD := Lib.hid hrd
        have HV2 := Lib.hid hvd
        clear htr hrd hvd
        go_wp2_with fail
        refine HT.out.mono ?_
        rintro e w3 ⟨m, hm, ht, rfl, rfl⟩
        clear HT
        go_wp2
        go_ret
        have r3 := HD.out.take (j := m) (by rw [← hdl.out]; exact hm)
        rw [ht, HV2.out] at r3
        exact ⟨_, m, m, rfl, r3, Nat.le_refl _, by have := hdl.out; omega, by rw [HG.out]; exact hb⟩
end Go.Proofs.YtociocengfjioaaGreatDoor
