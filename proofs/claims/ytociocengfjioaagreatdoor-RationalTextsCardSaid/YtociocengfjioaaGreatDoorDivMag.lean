/- Walk of divMag. -/
import Derived.Test.YtociocengfjioaaGreatDoorDivLong
namespace Go.Proofs.YtociocengfjioaaGreatDoor
open Go.RowKit
set_option linter.unusedVariables false

theorem qbelow {w w' : World} (h : ∃ n, w' = w.drewN n) : Below w.heap.size w w' := by obtain ⟨n, rfl⟩ := h; exact below_drewN w n
theorem RetDivW' (e32 : TypeId) (w : World) (g d : Nat) (zs : List Nat) : RetDivW e32 w g d zs = fun e w' => ∃ qs, e = .returned (.int .u32 ((val zs % d : Nat) : Int)) ∧ qs.length = zs.length ∧ W32 qs ∧ val qs = val zs / d ∧ Mut .u32 e32 w' g qs ∧ w.grownBy w' (some g) ∧ w'.heap.size = w.heap.size := rfl
theorem cmp3_lt {a b : Nat} (h : a < b) : cmp3 a b = -1 := by unfold cmp3; rw [if_pos h]
theorem cmp3_ge {a b : Nat} (h : b ≤ a) : 0 ≤ cmp3 a b := by unfold cmp3; rw [if_neg (by omega)]; split <;> omega

set_option maxHeartbeats 1000000 in
set_option maxRecDepth 100000 in
theorem divMag_any {A A' : Option Addr} {m n c c' a b : Nat} (w : World) (hr : Rd .u32 w w.heap.size A m (digits a)) (hr' : Rd .u32 w w.heap.size A' n (digits b)) (hm : m ≤ 549755813888) (hn : n ≤ 549755813888) (hb : 0 < b) :
    Calls Tryz.prog 120 #[.slice A m c, .slice A' n c'] w (RetTwo w (a / b) (a % b)) := by
  have hcm := compareMag_any (c := c) (c' := c') w hr hr' (by omega) (by omega)
  have HC := Lib.hid hcm
  clear hcm
  by_cases hlt : a < b
  · rw [cmp3_lt hlt] at HC
    have hcl := fun W (h : Rd .u32 W W.heap.size A m (digits a)) => clone_any (c := c) W h (by omega)
    have HCL := Lib.hid hcl
    have e1 : a / b = 0 := Nat.div_eq_of_lt hlt
    have e2 : a % b = a := Nat.mod_eq_of_lt hlt
    rw [e1, e2]
    clear hcl e1 e2
    go_enter Tryz.func120, Tryz.ntmps120
    go_wp2_with fail
    refine HC.out.mono ?_
    rintro e w1 ⟨rfl, hq1⟩
    have b1 := qbelow hq1
    clear hq1
    go_wp2_with fail
    refine (HCL.out _ (hr.call b1)).mono ?_
    rintro e w2 ⟨v2, rfl, o2⟩
    obtain ⟨A2, n2, c2, rfl, r2, h2, h3⟩ := o2.form'
    have b2 := b1.trans (o2.2.mono b1.size)
    clear o2
    go_wp2
    go_ret2
    exact ⟨none, 0, 0, A2, n2, c2, rfl, by rw [digits_zero]; exact Rd.nil, r2, by omega, by omega, h2, h3, b2⟩
  · have hge : 0 ≤ cmp3 a b := cmp3_ge (by omega)
    have hnm : n ≤ m := by rw [← hr.len, ← hr'.len]; exact digits_len_mono (by omega)
    have hn0 : 0 < n := by
      rcases Nat.eq_zero_or_pos n with h | h
      · have := hr'.len; rw [h] at this; have := (digits_nil_iff b).1 this; omega
      · exact h
    generalize cmp3 a b = cp at *
    have hcd : decide (cp < 0) = false := by simp; omega
    by_cases hm2 : m ≤ 2
    · have hab : a < 18446744073709551616 := by
        have := digits_lt a
        rw [hr.len] at this
        exact Nat.lt_of_lt_of_le this (Nat.le_trans (Nat.pow_le_pow_right (by omega) hm2) (by decide))
      have hta := fun W (h : Rd .u32 W W.heap.size A m (digits a)) => toWord_any (c := c) W h hab
      have htb := fun W (h : Rd .u32 W W.heap.size A' n (digits b)) => toWord_any (c := c') W h (by omega)
      have hq : a / b < 18446744073709551616 := Nat.lt_of_le_of_lt (Nat.div_le_self _ _) hab
      have hrm : a % b < 18446744073709551616 := Nat.lt_of_le_of_lt (Nat.mod_le _ _) hab
      have hfq := fun W => fromWord_any (a / b) W hq
      have hfr := fun W => fromWord_any (a % b) W hrm
      have e1 : (a : Int) / (b : Int) = ((a / b : Nat) : Int) := by simp
      have e2 : (a : Int) % (b : Int) = ((a % b : Nat) : Int) := by simp
      have hb1 : (1 : Int) ≤ (b : Int) := by omega
      have hbne : ((b : Int) == 0) = false := by simp; omega
      have hbn : ¬ b = 0 := by omega
      have e4 : (a : Int).tmod (b : Int) = ((a % b : Nat) : Int) := by rw [Int.tmod_eq_emod_of_nonneg (by omega)]; exact e2
      have e5 : (a : Int).tdiv (b : Int) = ((a / b : Nat) : Int) := by rw [Int.tdiv_eq_ediv_of_nonneg (by omega)]; exact e1
      have e3 : IntKind.u64.wrap ((a / b : Nat) : Int) = ((a / b : Nat) : Int) := IntWalk.u64_in _ ⟨Int.natCast_nonneg _, by have := hq; omega⟩
      have hax : a ≤ 18446744073709551615 := by omega
      have HA := Lib.hid hta
      have HB := Lib.hid htb
      have HQ := Lib.hid hfq
      have HR := Lib.hid hfr
      clear hta htb hfq hfr hq hrm hab
      generalize a / b = qq at *
      generalize a % b = rr at *
      go_enter Tryz.func120, Tryz.ntmps120
      go_wp2_with fail
      refine HC.out.mono ?_
      rintro e w1 ⟨rfl, hq1⟩
      have b1 := qbelow hq1
      clear hq1
      go_wp2_with fail
      refine (HA.out _ (hr.call b1)).mono ?_
      rintro e w2 ⟨rfl, hq2⟩
      have b2 := b1.trans ((qbelow hq2).mono b1.size)
      have r2 := (hr'.call b1).call (qbelow hq2)
      clear hq2 b1
      go_wp2_with fail
      refine (HB.out _ r2).mono ?_
      rintro e w3 ⟨rfl, hq3⟩
      have b3 := b2.trans ((qbelow hq3).mono b2.size)
      clear hq3 b2 r2
      go_wp2_with fail
      go_region_held3 (fun _ => True) (trivial)
        ((first | (go_at_call 103; (try rw [e1]); (try rw [e3]); ((with_reducible refine (HQ.out _).mono ?_)); rintro e w4 ⟨A4, n4, c4, rfl, r4, h4, h4', hb4⟩) | (go_at_call 103; (try rw [e2]); (try rw [e4]); ((with_reducible refine (HR.out _).mono ?_)); rintro e w5 ⟨A5, n5, c5, rfl, r5, h5, h5', hb5⟩)))
      go_wp2
      go_ret2
      have bb := (b3.drew).trans (hb4.mono b3.size)
      exact ⟨A4, n4, c4, A5, n5, c5, rfl, r4.call hb5, r5, h4, h4', h5, h5', bb.trans (hb5.mono bb.size)⟩
    · have hm2' : decide ((m : Int) ≤ 2) = false := by simp; omega
      by_cases hn1 : n = 1
      · subst hn1
        obtain ⟨y, hyl, hyd, rfl⟩ := digits_single hr'.len
        rw [hyd] at hr'
        have hcl := fun W (h : Rd .u32 W W.heap.size A m (digits a)) => clone_any (c := c) W h (by omega)
        have HCL := Lib.hid hcl
        have HLA := Lib.hid hr.len
        have HVA := Lib.hid (val_digits a)
        have HWA := Lib.hid (digits_w32 a)
        have hfr := fun W => fromWord_any (a % b) W (Nat.lt_of_lt_of_le (Nat.mod_lt _ hb) (by omega))
        have HFR := Lib.hid hfr
        have hrl : a % b < 4294967296 := Nat.lt_trans (Nat.mod_lt _ hb) hyl
        clear hcl hyd hfr
        go_enter Tryz.func120, Tryz.ntmps120
        go_wp2_with fail
        refine HC.out.mono ?_
        rintro e w1 ⟨rfl, hq1⟩
        have b1 := qbelow hq1
        clear hq1
        have r1' := hr'.call b1
        go_wp2_with fail
        refine (HCL.out _ (hr.call b1)).mono ?_
        rintro e w2 ⟨v2, rfl, o2⟩
        obtain ⟨g2, c2, hv2, m2, hg2, hc2, hc2'⟩ := o2.mut (by rw [HLA.out]; omega)
        have b2 := b1.trans (o2.2.mono b1.size)
        have r2' := r1'.below o2.2
        obtain ⟨by_, oy, rfl, hby, hcy⟩ := r2'.at_ (j := 0) (by omega)
        simp at hcy
        rw [HLA.out] at hv2 hc2
        have hdw := divWordInPlace_any (c := c2) w2 m2 HWA.out HLA.out (by omega) hyl hb
        rw [RetDivW', HVA.out] at hdw
        have HDW := Lib.hid hdw
        clear hdw o2
        rw [hv2]
        clear hv2
        go_wp2_with fail
        refine HDW.out.mono ?_
        rintro e w3 ⟨qs, rfl, hql, hqw, hqv, m3, hgr3, hsz3⟩
        have b3 := below_grown b2 hgr3 b2.size (Nat.le_trans b1.size hg2)
        have HQL := Lib.hid (hql.trans HLA.out)
        have HQV := Lib.hid hqv
        have HSZ := Lib.hid hsz3
        clear HDW hql hqv hsz3
        have r3 := m3.rd
        rw [HQL.out] at r3
        have htr := trim_any (c := c2) w3 r3 hqw hc2 hc2'
        have HTR := Lib.hid htr
        clear htr
        generalize a / b = qq at *
        generalize a % b = rr at *
        go_wp2_with fail
        refine HTR.out.mono ?_
        rintro e w4 ⟨mm, hmm, htt, rfl, rfl⟩
        rw [HQV.out] at htt
        have r4 := r3.take (j := mm) (by rw [← HQL.out]; exact hmm)
        rw [htt] at r4
        have HMM := Lib.hid hmm
        clear htt hmm HTR
        go_wp2_with fail
        refine (HFR.out _).mono ?_
        rintro e w5 ⟨A5, n5, c5, rfl, r5, h5, h5', hb5⟩
        go_wp2
        go_ret2
        exact ⟨_, mm, mm, A5, n5, c5, rfl, r4.call hb5, r5, Nat.le_refl _, by have := HMM.out; have := HQL.out; omega, h5, h5', b3.trans (hb5.mono b3.size)⟩
      · have hn1' : ((n : Int) == 1) = false := by simp; omega
        have hdl := fun W (h : Rd .u32 W W.heap.size A m (digits a)) (h' : Rd .u32 W W.heap.size A' n (digits b)) => divLong_any (c := c) (c' := c') W h h' hm (by omega) (by omega)
        have HDL := Lib.hid hdl
        clear hdl
        go_enter Tryz.func120, Tryz.ntmps120
        go_wp2_with fail
        refine HC.out.mono ?_
        rintro e w1 ⟨rfl, hq1⟩
        have b1 := qbelow hq1
        clear hq1
        go_wp2_with fail
        refine (HDL.out _ (hr.call b1) (hr'.call b1)).mono ?_
        rintro e w2 ⟨A4, n4, c4, A5, n5, c5, rfl, r4, r5, h4, h4', h5, h5', hb5⟩
        go_wp2
        go_ret2
        exact ⟨A4, n4, c4, A5, n5, c5, rfl, r4, r5, h4, h4', h5, h5', b1.trans (hb5.mono b1.size)⟩
end Go.Proofs.YtociocengfjioaaGreatDoor
