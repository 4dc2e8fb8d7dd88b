/- Walks of compareDigits, addDigits, subDigits, mulDigits of the reference. -/
import Derived.Test.YtociocengfjioaaGreatDoorRefA
namespace Go.Proofs.YtociocengfjioaaGreatDoor
open Go.RowKit
set_option linter.unusedVariables false

theorem retQ2 {w : World} {v v' : Value} {a b : Nat} (h : v = v') : RetQ w v' (.returned v) ((w.drewN a).drewN b) := ⟨by rw [h], a + b, by rw [World.drewN_drewN]⟩

set_option maxHeartbeats 1000000 in
set_option maxRecDepth 100000 in
theorem compareDigits_any {A A' : Option Addr} {n n' c c' B B' : Nat} {zs zs' : List Nat} (w : World) (hr0 : Rd .u32 w B A n zs) (hr0' : Rd .u32 w B' A' n' zs') (hz : W32 zs) (hz' : W32 zs') (hnc : n ≤ c) (hc : c ≤ 9223372036854775807) (hnc' : n' ≤ c') (hc' : c' ≤ 9223372036854775807) :
    Calls Tryz.prog 92 #[.slice A n c, .slice A' n' c'] w (RetQ w (.int .i64 (cmp3 (val zs) (val zs')))) := by
  have H1 := Lib.hid (refTrim_mag (c := c) w hr0 hz hnc hc)
  have H2 := Lib.hid (refTrim_mag (c := c') w hr0' hz' hnc' hc')
  go_enter Tryz.func92, Tryz.ntmps92
  go_wp2_with fail
  refine H1.out.mono ?_
  rintro e w1 ⟨m, rfl, hr, hm, rfl⟩
  go_wp2_with fail
  refine H2.out.mono ?_
  rintro e w1 ⟨m', rfl, hr', hm', rfl⟩
  clear H1 H2 hr0 hr0' hz hz'
  generalize val zs = a at *
  generalize val zs' = b at *
  have hl := hr.len
  have hl' := hr'.len
  have hwx := digits_w32 a
  have hwy := digits_w32 b
  have hn1 : m ≤ 9223372036854775807 := by omega
  have hn1' : m' ≤ 9223372036854775807 := by omega
  clear hm hm' hnc hnc' hc hc'
  by_cases hne : m = m'
  · have hne' : ((m : Int) != (m' : Int)) = false := by simp [hne]
    have HV : Hid (val (digits a) = a) := val_digits a
    have HV' : Hid (val (digits b) = b) := val_digits b
    have HT := Lib.hid (val_cmp_top hwx hwy (by omega))
    have HT' := Lib.hid (val_cmp_top hwy hwx (by omega))
    subst hne
    generalize digits a = xs at *
    generalize digits b = ys at *
    have HL := Lib.hid hl
    have HL' := Lib.hid hl'
    clear hl hl' hwx hwy
    go_wp2_with fail
    go_loopw [5] (fun i wr => ∃ k : Nat, k ≤ m ∧ i = .int .i64 ((k : Int) - 1) ∧ Hid (xs.drop k = ys.drop k) ∧ ∃ q, Hid (wr = w.drewN q)) (fun i _ => (intOf i + 1).toNat)
    case atStart => exact ⟨m, Nat.le_refl _, rfl, by unfold Hid; rw [List.drop_of_length_le (by rw [HL.out]; omega), List.drop_of_length_le (by rw [HL'.out]; omega)], 0, rfl⟩
    case round =>
      obtain ⟨k, hk, rfl, HE, q, hw⟩ := hrel
      have hw' := hw.out
      subst hw'
      clear hw
      by_cases h0 : 0 < k
      · obtain ⟨k, rfl⟩ : ∃ j, k = j + 1 := ⟨k - 1, by omega⟩
        obtain ⟨b1, o1, rfl, _, hc1⟩ := hr.at_ (j := k) (by omega)
        obtain ⟨b2, o2, rfl, _, hc2⟩ := hr'.at_ (j := k) (by omega)
        have hk1 : k < m := by omega
        have hkk : ((k + 1 : Nat) : Int) - 1 = (k : Int) := by omega
        rw [hkk]
        have HT1 := Lib.hid (HT.out k (by rw [HL.out]; omega) HE.out)
        have HT2 := Lib.hid (HT'.out k (by rw [HL'.out]; omega) HE.out.symm)
        have HXY : Hid (xs.getD k 0 = ys.getD k 0 → xs.drop k = ys.drop k) := by
          intro e
          rw [drop_getD xs k (by rw [HL.out]; omega), drop_getD ys k (by rw [HL'.out]; omega), HE.out, e]
        generalize xs.getD k 0 = x at *
        generalize ys.getD k 0 = y at *
        have i1 : (0 : Int) ≤ (k : Int) := by omega
        have i2 : (k : Int) < (m : Int) := by omega
        by_cases e : x = y
        · have eb : decide ((x : Int) < (y : Int)) = false := by simp; omega
          have ec : decide ((y : Int) < (x : Int)) = false := by simp; omega
          have eb' : decide (x < y) = false := by simp; omega
          have ec' : decide (y < x) = false := by simp; omega
          have HE2 := Lib.hid (HXY.out e)
          clear e hkk
          go_wp2
          go_quiet (fail)
          go_wp2
          go_quiet (fail)
          go_wp2
          go_roundw
          case rel => exact ⟨k, by omega, rfl, HE2, _, rfl⟩
          case measure => simp [intOf] <;> omega
        · by_cases hlt : x < y
          · have fin : cmp3 a b = -1 := by unfold cmp3; rw [if_pos (by have := HT1.out hlt; rw [HV.out, HV'.out] at this; exact this)]
            have HF := Lib.hid fin
            have hlt' : decide ((x : Int) < (y : Int)) = true := by simp; omega
            have hlt2 : decide (x < y) = true := by simp; omega
            clear fin hkk
            go_wp2
            go_quiet (fail)
            go_wp2
            go_ret
            exact retQ2 (by rw [HF.out]; rfl)
          · have fin : cmp3 a b = 1 := by
              have := HT2.out (by omega)
              rw [HV.out, HV'.out] at this
              unfold cmp3; rw [if_neg (by omega), if_neg (by omega)]
            have HF := Lib.hid fin
            have hlt' : decide ((x : Int) < (y : Int)) = false := by simp; omega
            have hlt2 : decide (x < y) = false := by simp; omega
            have hlt3 : decide ((y : Int) < (x : Int)) = true := by simp; omega
            have hlt4 : decide (y < x) = true := by simp; omega
            clear fin hkk
            go_wp2
            go_quiet (fail)
            go_wp2
            go_quiet (fail)
            go_wp2
            go_ret
            exact retQ3 (by rw [HF.out]; rfl)
      · obtain rfl : k = 0 := by omega
        have fin : cmp3 a b = 0 := by
          have h := HE.out
          rw [List.drop_zero, List.drop_zero] at h
          have : a = b := by rw [← HV.out, ← HV'.out, h]
          unfold cmp3; rw [if_neg (by omega), if_pos this]
        have HF := Lib.hid fin
        clear fin
        go_wp2
        go_ret
        exact ⟨by rw [HF.out]; rfl, _, rfl⟩
  · have hne' : ((m : Int) != (m' : Int)) = true := by simp; omega
    by_cases hlt : m < m'
    · have fin : cmp3 a b = -1 := by unfold cmp3; rw [if_pos (cmp3_len (by omega))]
      have HF := Lib.hid fin
      clear fin
      go_wp2
      go_ret
      exact ⟨by rw [HF.out]; rfl, 0, rfl⟩
    · have fin : cmp3 a b = 1 := by
        have := cmp3_len (a := b) (b := a) (by omega)
        unfold cmp3; rw [if_neg (by omega), if_neg (by omega)]
      have HF := Lib.hid fin
      clear fin
      go_wp2
      go_ret
      exact ⟨by rw [HF.out]; rfl, 0, rfl⟩

/-- digits of a number in a new block -/
def RetMagN (w : World) (m : Nat) (e : Ending) (w' : World) : Prop :=
  ∃ A n c, e = .returned (.slice A n c) ∧ Rd .u32 w' w'.heap.size A n (digits m) ∧ n ≤ c ∧ c ≤ 9223372036854775807 ∧ Below w.heap.size w w' ∧ A = some ⟨w.heap.size, 0, none⟩
theorem RetMagN.old {w : World} {m : Nat} {e : Ending} {w' : World} (h : RetMagN w m e w') : RetMag w m e w' := by
  obtain ⟨A, n, c, h1, h2, h3, h4, h5, _⟩ := h
  exact ⟨A, n, c, h1, h2, h3, h4, h5⟩
/-- the end of a function that trims its new digits -/
theorem trimEnd {g N c : Nat} {zs : List Nat} {w wr : World} {v : Nat} (hB : Buf .u32 86 wr g zs) (hl : zs.length = N) (hw : W32 zs) (hv : val zs = v) (hb : Below w.heap.size w wr) (hN : N ≤ c) (hc : c ≤ 9223372036854775807) (hg : w.heap.size = g) :
    Calls Tryz.prog 97 #[.slice (some ⟨g, 0, none⟩) N c] wr (fun e w' => RetMagN w v e w' ∧ w' = wr) := by
  have hrd := hB.rd
  rw [hl] at hrd
  refine (refTrim_mag (c := c) wr hrd hw hN hc).mono ?_
  rintro e w1 ⟨m, rfl, r1, hm, rfl⟩
  rw [hv] at r1
  exact ⟨⟨_, m, c, rfl, r1, by omega, hc, hb, by rw [hg]⟩, rfl⟩

set_option maxRecDepth 100000 in
theorem addDigits_new {A A' : Option Addr} {n n' c c' : Nat} {xs ys : List Nat} (w : World) (hr : Rd .u32 w w.heap.size A n xs) (hr' : Rd .u32 w w.heap.size A' n' ys) (hx : W32 xs) (hy : W32 ys) (hn : n ≤ 1099511627776) (hn' : n' ≤ 1099511627776) :
    Calls Tryz.prog 95 #[.slice A n c, .slice A' n' c'] w (RetMagN w (val xs + val ys)) := by
  have HL := Lib.hid hr.len
  have HL' := Lib.hid hr'.len
  have HX := Lib.hid hx
  have HY := Lib.hid hy
  clear hx hy
  obtain ⟨N, hN, hN1, hN2, hN3⟩ : ∃ N : Nat, (max (n : Int) (n' : Int) + 1 = (N : Int)) ∧ n + 1 ≤ N ∧ n' + 1 ≤ N ∧ N ≤ 1099511627777 := ⟨max n n' + 1, by omega, by omega, by omega, by omega⟩
  have HNE := Lib.hid hN
  go_enter Tryz.func95, Tryz.ntmps95
  go_wp2_with (at_make; refine wpList_make_lst (kx := .i64) (ky := .i64) (n := N) (c := N) Tryz.elemU32 Tryz.underlying22 rfl rfl (congrArg (Value.int .i64) (by first | rfl | omega)) (congrArg (Value.int .i64) (by first | rfl | omega)) (Nat.le_refl _) (by omega) (by omega) ?_)
  all_goals
    intro w1 B1 b1 l1
    rw [← fill_nil] at B1
    generalize hg : w.heap.size = g at *
    have HG := Lib.hid hg
    clear hg
    have r1 := hr.below b1
    have r1' := hr'.below b1
    clear hr hr' l1
    first | rw [show ((n' : Int) + 1) = (N : Int) by omega] | rw [show ((n : Int) + 1) = (N : Int) by omega]
    clear hN
    go_wp2_with fail
    go_loopw [7, 8] (fun cv i wr => ∃ (k cr : Nat) (ds : List Nat), k ≤ N ∧ i = .int .i64 k ∧ cv = .int .u64 cr ∧ cr ≤ 1 ∧ Hid (ds.length = k) ∧ Hid (W32 ds) ∧ Hid (val ds + 4294967296 ^ k * cr = val (xs.take k) + val (ys.take k)) ∧ Buf .u32 86 wr g (fill ds N) ∧ Rd .u32 wr g A n xs ∧ Rd .u32 wr g A' n' ys ∧ Below g w wr) (fun _ i _ => N - (intOf i).toNat)
    case atStart => exact ⟨0, 0, [], by omega, rfl, rfl, by omega, rfl, W32.nil, rfl, B1, r1, r1', b1⟩
    case round =>
      obtain ⟨k, cr, ds, hk, rfl, rfl, hcr, hdl, hdw, HV, hB, q, q', hb⟩ := hrel
      clear B1 r1 r1' b1
      by_cases hlt : k < N
      · have hxl := HX.out.getD k
        have hyl := HY.out.getD k
        have H1 := Lib.hid (digit_any (c := c) (i := k) wr q HX.out (by omega))
        have H2 := Lib.hid (digit_any (c := c') (i := k) wr q' HY.out (by omega))
        have hc : wr.cell? ⟨g, k, none⟩ = some (.int .u32 (((fill ds N).getD k 0 : Nat) : Int)) := hB.cell (by rw [fill_len (by rw [hdl.out]; omega)]; omega)
        have hf := hB.frozen k
        have HVS := Lib.hid (add_step (x := xs.getD k 0) (y := ys.getD k 0) HV.out)
        rw [← val_take_succ, ← val_take_succ, ← Nat.pow_succ] at HVS
        have HSET := Lib.hid (fun d => fill_set d hlt hdl.out)
        have HLEN : Hid (∀ d, (ds ++ [d]).length = k + 1) := fun d => by rw [List.length_append, hdl.out]; rfl
        have HVAL : Hid (∀ d, val (ds ++ [d]) = val ds + 4294967296 ^ k * d) := fun d => by rw [val_snoc, hdl.out]
        generalize xs.getD k 0 = x at *
        generalize ys.getD k 0 = y at *
        generalize (fill ds N).getD k 0 = old at *
        have i1 : (0 : Int) ≤ (k : Int) := by omega
        have i2 : (k : Int) < (N : Int) := by omega
        go_wp2_with fail
        refine H1.out.mono ?_
        rintro e w2 ⟨rfl, rfl⟩
        go_wp2_with fail
        refine H2.out.mono ?_
        rintro e w2 ⟨rfl, rfl⟩
        go_wp2
        go_roundw
        case rel =>
          refine ⟨k + 1, (cr + x + y) / 4294967296, ds ++ [(cr + x + y) % 4294967296], by omega, by go_num, by go_num, by omega, HLEN.out _, hdw.out.append (W32.mk (by omega) W32.nil), ?_, ?_, q.setCell (Nat.le_refl _) _, q'.setCell (Nat.le_refl _) _, hb.setCell (Nat.le_refl _) _⟩
          · unfold Hid; rw [HVAL.out]; exact HVS.out
          · rw [← HSET.out]; exact hB.setZ k (by omega)
        case measure => simp [intOf] <;> omega
      · obtain rfl : k = N := by omega
        rw [fill_full hdl.out] at hB
        have hv : val ds = val xs + val ys := by
          have h := HV.out
          rw [List.take_of_length_le (by rw [HL.out]; omega), List.take_of_length_le (by rw [HL'.out]; omega)] at h
          have h1 := val_lt HX.out
          have h2 := val_lt HY.out
          have h3 : 4294967296 ^ xs.length ≤ 4294967296 ^ (k - 1) := Nat.pow_le_pow_right (by omega) (by rw [HL.out]; omega)
          have h4 : 4294967296 ^ ys.length ≤ 4294967296 ^ (k - 1) := Nat.pow_le_pow_right (by omega) (by rw [HL'.out]; omega)
          have h5 : 4294967296 ^ k = 4294967296 ^ (k - 1) * 4294967296 := by rw [← Nat.pow_succ]; congr 1; omega
          generalize 4294967296 ^ (k - 1) = P at *
          rcases Nat.eq_zero_or_pos cr with h0 | h0
          · rw [h0, Nat.mul_zero] at h; omega
          · exfalso
            obtain rfl : cr = 1 := by omega
            rw [h5] at h
            omega
        have HT := Lib.hid (trimEnd (w := w) (c := k) hB hdl.out hdw.out hv (by rw [HG.out]; exact hb) (Nat.le_refl _) (by omega) HG.out)
        clear hv
        go_wp2_with fail
        refine HT.out.mono ?_
        rintro e w3 ⟨⟨A1, n1, c1, rfl, h1⟩, rfl⟩
        have H1 := Lib.hid h1
        clear h1
        clear HT
        go_wp2
        go_ret
        exact ⟨A1, n1, c1, rfl, H1.out⟩

theorem rsub_word (x y br : Nat) (hx : x < 4294967296) (hy : y < 4294967296) (hbr : br ≤ 1) : (x + 4294967296 - y - br) / 4294967296 ≤ 1 ∧ 1 - (x + 4294967296 - y - br) / 4294967296 = (if x < br + y then 1 else 0) ∧ (x + 4294967296 - y - br) = (x + 4294967296 - br - y) := by
  split <;> omega

set_option maxRecDepth 100000 in
theorem subDigits_new {A A' : Option Addr} {n n' c c' : Nat} {xs ys : List Nat} (w : World) (hr : Rd .u32 w w.heap.size A n xs) (hr' : Rd .u32 w w.heap.size A' n' ys) (hx : W32 xs) (hy : W32 ys) (hn : n ≤ 1099511627776) (hnn : n' ≤ n) (hle : val ys ≤ val xs) :
    Calls Tryz.prog 96 #[.slice A n c, .slice A' n' c'] w (RetMagN w (val xs - val ys)) := by
  have HL := Lib.hid hr.len
  have HL' := Lib.hid hr'.len
  have HX := Lib.hid hx
  have HY := Lib.hid hy
  have HLE := Lib.hid hle
  clear hx hy hle
  go_enter Tryz.func96, Tryz.ntmps96
  go_wp2_with (at_make; refine wpList_make_lst (kx := .i64) (ky := .i64) (n := n) (c := n) Tryz.elemU32 Tryz.underlying22 rfl rfl rfl rfl (Nat.le_refl _) (by omega) (by omega) ?_)
  intro w1 B1 b1 l1
  rw [← fill_nil] at B1
  generalize hg : w.heap.size = g at *
  have HG := Lib.hid hg
  clear hg
  have r1 := hr.below b1
  have r1' := hr'.below b1
  clear hr hr' l1
  go_wp2_with fail
  go_loopw [6, 7, 8] (fun cv i _ wr => ∃ (k cr : Nat) (ds : List Nat), k ≤ n ∧ i = .int .i64 k ∧ cv = .int .u64 cr ∧ cr ≤ 1 ∧ Hid (ds.length = k) ∧ Hid (W32 ds) ∧ Hid (val (xs.take k) + 4294967296 ^ k * cr = val ds + val (ys.take k)) ∧ Buf .u32 86 wr g (fill ds n) ∧ Rd .u32 wr g A n xs ∧ Rd .u32 wr g A' n' ys ∧ Below g w wr) (fun _ i _ _ => n - (intOf i).toNat)
  case atStart => exact ⟨0, 0, [], by omega, rfl, rfl, by omega, rfl, W32.nil, rfl, B1, r1, r1', b1⟩
  case round =>
    obtain ⟨k, cr, ds, hk, rfl, rfl, hcr, hdl, hdw, HV, hB, q, q', hb⟩ := hrel
    clear B1 r1 r1' b1
    by_cases hlt : k < n
    · have hxl := HX.out.getD k
      have hyl := HY.out.getD k
      have H1 := Lib.hid (digit_any (c := c) (i := k) wr q HX.out (by omega))
      have H2 := Lib.hid (digit_any (c := c') (i := k) wr q' HY.out (by omega))
      have hc : wr.cell? ⟨g, k, none⟩ = some (.int .u32 (((fill ds n).getD k 0 : Nat) : Int)) := hB.cell (by rw [fill_len (by rw [hdl.out]; omega)]; omega)
      have hf := hB.frozen k
      have HVS := Lib.hid (sub_step (x := xs.getD k 0) (y := ys.getD k 0) HV.out hxl hyl hcr)
      rw [← val_take_succ, ← val_take_succ, ← Nat.pow_succ] at HVS
      have HSET := Lib.hid (fun d => fill_set d hlt hdl.out)
      have HLEN : Hid (∀ d, (ds ++ [d]).length = k + 1) := fun d => by rw [List.length_append, hdl.out]; rfl
      have HVAL : Hid (∀ d, val (ds ++ [d]) = val ds + 4294967296 ^ k * d) := fun d => by rw [val_snoc, hdl.out]
      generalize xs.getD k 0 = x at *
      generalize ys.getD k 0 = y at *
      generalize (fill ds n).getD k 0 = old at *
      obtain ⟨e1, e2, e3⟩ := rsub_word x y cr hxl hyl hcr
      have E2 := Lib.hid e2
      have E3 := Lib.hid e3
      clear e2 e3
      have i1 : (0 : Int) ≤ (k : Int) := by omega
      have i2 : (k : Int) < (n : Int) := by omega
      go_wp2_with fail
      refine H1.out.mono ?_
      rintro e w2 ⟨rfl, rfl⟩
      go_wp2_with fail
      refine H2.out.mono ?_
      rintro e w2 ⟨rfl, rfl⟩
      go_wp2
      go_roundw
      case rel =>
        refine ⟨k + 1, (if x < cr + y then 1 else 0), ds ++ [(x + 4294967296 - cr - y) % 4294967296], by omega, by go_num, ?_, by split <;> omega, HLEN.out _, hdw.out.append (W32.mk (by omega) W32.nil), ?_, ?_, q.setCell (Nat.le_refl _) _, q'.setCell (Nat.le_refl _) _, hb.setCell (Nat.le_refl _) _⟩
        · rw [← E2.out]; congr 1; omega
        · unfold Hid; rw [HVAL.out]; exact HVS.out
        · rw [← HSET.out]; exact hB.setZ k (by rw [← E3.out]; omega)
      case measure => simp [intOf] <;> omega
    · obtain rfl : k = n := by omega
      rw [fill_full hdl.out] at hB
      have hv : val ds = val xs - val ys := by
        have h := HV.out
        rw [List.take_of_length_le (by rw [HL.out]; omega), List.take_of_length_le (by rw [HL'.out]; omega)] at h
        have hl := val_lt hdw.out
        rw [hdl.out] at hl
        have h2 := HLE.out
        have hc0 : cr = 0 := by
          rcases Nat.eq_zero_or_pos cr with h0 | h0
          · exact h0
          · exfalso
            obtain rfl : cr = 1 := by omega
            rw [Nat.mul_one] at h
            omega
        subst hc0
        rw [Nat.mul_zero] at h
        omega
      have HT := Lib.hid (trimEnd (w := w) (c := k) hB hdl.out hdw.out hv (by rw [HG.out]; exact hb) (Nat.le_refl _) (by omega) HG.out)
      clear hv
      go_wp2_with fail
      refine HT.out.mono ?_
      rintro e w3 ⟨⟨A1, n1, c1, rfl, h1⟩, rfl⟩
      have H1 := Lib.hid h1
      clear h1
      clear HT
      go_wp2
      go_ret
      exact ⟨A1, n1, c1, rfl, H1.out⟩
theorem addDigits_any {A A' : Option Addr} {n n' c c' : Nat} {xs ys : List Nat} (w : World) (hr : Rd .u32 w w.heap.size A n xs) (hr' : Rd .u32 w w.heap.size A' n' ys) (hx : W32 xs) (hy : W32 ys) (hn : n ≤ 1099511627776) (hn' : n' ≤ 1099511627776) :
    Calls Tryz.prog 95 #[.slice A n c, .slice A' n' c'] w (RetMag w (val xs + val ys)) := (addDigits_new w hr hr' hx hy hn hn').mono fun _ _ h => h.old
theorem subDigits_any {A A' : Option Addr} {n n' c c' : Nat} {xs ys : List Nat} (w : World) (hr : Rd .u32 w w.heap.size A n xs) (hr' : Rd .u32 w w.heap.size A' n' ys) (hx : W32 xs) (hy : W32 ys) (hn : n ≤ 1099511627776) (hnn : n' ≤ n) (hle : val ys ≤ val xs) :
    Calls Tryz.prog 96 #[.slice A n c, .slice A' n' c'] w (RetMag w (val xs - val ys)) := (subDigits_new w hr hr' hx hy hn hnn hle).mono fun _ _ h => h.old
end Go.Proofs.YtociocengfjioaaGreatDoor
