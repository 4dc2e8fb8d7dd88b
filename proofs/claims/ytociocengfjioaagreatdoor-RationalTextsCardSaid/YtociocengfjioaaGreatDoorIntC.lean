/- Walk of mulMag. -/
import Derived.Test.YtociocengfjioaaGreatDoorIntB
import Derived.StillTailTactics
namespace Go.Proofs.YtociocengfjioaaGreatDoor
open Go.RowKit

theorem digits_single {a : Nat} (h : (digits a).length = 1) : ∃ x, x < 4294967296 ∧ digits a = [x] ∧ a = x := by
  have h0 : a ≠ 0 := fun e => by subst e; rw [digits_zero] at h; simp at h
  have hl : a < 4294967296 := by have := digits_lt a; rw [h] at this; omega
  exact ⟨a, hl, digits_one h0 hl, rfl⟩

set_option maxHeartbeats 1000000 in
set_option maxRecDepth 100000 in
theorem mulMag_long {A A' : Option Addr} {n n' c c' : Nat} {xs ys : List Nat} (w : World) (hr : Rd .u32 w w.heap.size A n xs) (hr' : Rd .u32 w w.heap.size A' n' ys) (hx : W32 xs) (hy : W32 ys) (hn : n ≤ 1099511627776) (hn' : n' ≤ 1099511627776) (h0 : 0 < n) (h0' : 0 < n') (h1 : ¬ (n = 1 ∧ n' = 1)) :
    Calls Tryz.prog 88 #[.slice A n c, .slice A' n' c'] w (RetMag w (val xs * val ys)) := by
  have HL := Lib.hid hr.len
  have HL' := Lib.hid hr'.len
  have HX := Lib.hid hx
  have HY := Lib.hid hy
  clear hx hy
  have t0 : ((n : Int) == 0) = false := by simp; omega
  have t0' : ((n' : Int) == 0) = false := by simp; omega
  have key : ∀ P : Prop, (((n : Int) == 1) = false → P) → (((n : Int) == 1) = true → ((n' : Int) == 1) = false → P) → P := by
    intro P p1 p2
    by_cases e : n = 1
    · exact p2 (by simp [e]) (by simp; omega)
    · exact p1 (by simp; omega)
  refine key _ ?_ ?_
  all_goals clear key h1
  · intro f1
    go_enter Tryz.func88, Tryz.ntmps88
    go_wp2_with (at_make; refine wpList_make_lst (kx := .i64) (ky := .i64) (n := n + n') (c := n + n') Tryz.elemU32 Tryz.underlying22 rfl rfl (congrArg (Value.int .i64) (by omega)) (congrArg (Value.int .i64) (by omega)) (Nat.le_refl _) (by omega) (by omega) ?_)
    intro w1 B1 b1 l1
    generalize hg : w.heap.size = g at *
    have HG := Lib.hid hg
    clear hg
    have r1 := hr.below b1
    have r1' := hr'.below b1
    clear hr hr' l1
    go_wp2
    go_loopw [6, 7, 8, 9, 10, 11, 46, 68] (fun _ _ _ _ _ _ i _ wr => ∃ (k : Nat) (zs : List Nat), k ≤ n ∧ i = .int .i64 k ∧ Hid (zs.length = n + n') ∧ Hid (W32 zs) ∧ Hid (val zs = val (xs.take k) * val ys) ∧ Hid (∀ j, k + n' ≤ j → zs.getD j 0 = 0) ∧ Buf .u32 86 wr g zs ∧ Rd .u32 wr g A n xs ∧ Rd .u32 wr g A' n' ys ∧ Below g w wr) (fun _ _ _ _ _ _ i _ _ => n - (intOf i).toNat)
    case atStart => exact ⟨0, _, by omega, rfl, by simp [Hid], W32.rep _, by rw [val_rep, List.take_zero]; simp [val, Hid], fun j _ => by rw [List.getD_eq_getElem?_getD]; simp only [List.getElem?_replicate]; split <;> rfl, B1, r1, r1', b1⟩
    case round =>
      obtain ⟨k, zs, hk, rfl, hzl, hzw, HV, HZ, hB, q, q', hb⟩ := hrel
      clear B1 r1 r1' b1
      by_cases hlt : k < n
      · obtain ⟨b1, o1, rfl, hb1, hc1⟩ := q.at_ hlt
        have hdl := HX.out.getD k
        have HTS := Lib.hid (val_take_succ xs k)
        by_cases hd0 : xs.getD k 0 = 0
        · rw [hd0] at hc1 HTS
          have HV2 : Hid (val zs = val (xs.take (k + 1)) * val ys) := by
            unfold Hid; rw [HTS.out, Nat.mul_zero, Nat.add_zero]; exact HV.out
          clear hd0 hdl
          go_wp2
          go_roundw
          case rel => exact ⟨k + 1, zs, by omega, by go_num, hzl, hzw, HV2, fun j hj => HZ.out j (by omega), hB, q, q', hb⟩
          case measure => simp [intOf] <;> omega
        · generalize xs.getD k 0 = d at *
          have hd0' : ((d : Int) == 0) = false := by simp; omega
          clear hd0
          go_wp2
          go_loopw [8, 10, 11, 68] (fun cv _ _ i wr => ∃ (j cr : Nat) (us : List Nat), j ≤ n' ∧ i = .int .i64 j ∧ cv = .int .u64 cr ∧ cr < 4294967296 ∧ Hid (us.length = n + n') ∧ Hid (W32 us) ∧ Hid (val us + 4294967296 ^ (k + j) * cr = val zs + 4294967296 ^ k * (d * val (ys.take j))) ∧ Hid (∀ i, k + n' ≤ i → us.getD i 0 = 0) ∧ Buf .u32 86 wr g us ∧ Rd .u32 wr g (some ⟨b1, o1, none⟩) n xs ∧ Rd .u32 wr g A' n' ys ∧ Below g w wr) (fun _ _ _ i _ => n' - (intOf i).toNat)
          case atStart => exact ⟨0, 0, zs, by omega, rfl, rfl, by omega, hzl, hzw, by simp [val, Hid], HZ, hB, q, q', hb⟩
          case round =>
            obtain ⟨j, cr, us, hj, rfl, rfl, hcr, hul, huw, HU, HZU, hBu, p, p', hbu⟩ := hrel
            clear hB q q' hb
            by_cases hltj : j < n'
            · obtain ⟨b2, o2, rfl, hb2, hc2⟩ := p'.at_ hltj
              have hfl := HY.out.getD j
              have hc := hBu.cell (i := k + j) (by rw [hul.out]; omega)
              have hf := hBu.frozen (k + j)
              have hol := huw.out.getD (k + j)
              have HTJ := Lib.hid (val_take_succ ys j)
              obtain ⟨pp, s1, s2, e1, e2, e3, es, hsq, hsm⟩ := mul_facts hdl hfl hol hcr
              have HVS := Lib.hid (mul_step HU.out (Nat.pow_add 4294967296 k j) s2 es)
              have HSV := Lib.hid (val_set us (k + j) (s2 % 4294967296) (by rw [hul.out]; omega))
              rw [← HTJ.out] at HVS
              generalize ys.getD j 0 = f at *
              generalize us.getD (k + j) 0 = z at *
              have HF : Hid (val (us.set (k + j) (s2 % 4294967296)) + 4294967296 ^ (k + (j + 1)) * (s2 / 4294967296) = val zs + 4294967296 ^ k * (d * val (ys.take (j + 1)))) := by
                have h1 := HVS.out
                have h2 := HSV.out
                have h3 : 4294967296 ^ (k + (j + 1)) = 4294967296 ^ (k + j) * 4294967296 := by rw [← Nat.add_assoc, Nat.pow_succ]
                unfold Hid
                rw [h3]
                generalize 4294967296 ^ (k + j) = P at *
                omega
              clear es
              go_wp2
              go_roundw
              case rel =>
                refine ⟨j + 1, s2 / 4294967296, us.set (k + j) (s2 % 4294967296), by omega, by go_num, by go_num, hsq, ?_, huw.out.set _ hsm, HF, ?_, ?_, p.setCell (Nat.le_refl _) _, p'.setCell (Nat.le_refl _) _, hbu.setCell (Nat.le_refl _) _⟩
                · unfold Hid; rw [List.length_set]; exact hul.out
                · intro i hi
                  rw [List.getD_eq_getElem?_getD, List.getElem?_set_ne (by omega), ← List.getD_eq_getElem?_getD]
                  exact HZU.out i hi
                · exact hBu.setZ _ (by omega)
              case measure => simp [intOf] <;> omega
            · obtain rfl : j = n' := by omega
              have hc := hBu.cell (i := k + j) (by rw [hul.out]; omega)
              have hf := hBu.frozen (k + j)
              have HSV := Lib.hid (val_set us (k + j) cr (by rw [hul.out]; omega))
              rw [HZU.out (k + j) (by omega)] at HSV
              have HF : Hid (val (us.set (k + j) cr) = val (xs.take (k + 1)) * val ys) := by
                have h1 := HU.out
                have h2 := HSV.out
                rw [Nat.mul_zero, Nat.add_zero] at h2
                unfold Hid
                rw [h2, h1, List.take_of_length_le (by rw [HL'.out]; omega), HV.out, HTS.out, Nat.add_mul, Nat.mul_assoc]
              generalize us.getD (k + j) 0 = z at *
              go_wp2
              go_roundw
              case rel =>
                refine ⟨k + 1, us.set (k + j) cr, by omega, by go_num, ?_, huw.out.set _ hcr, HF, ?_, hBu.setZ _ (by omega), p.setCell (Nat.le_refl _) _, p'.setCell (Nat.le_refl _) _, hbu.setCell (Nat.le_refl _) _⟩
                · unfold Hid; rw [List.length_set]; exact hul.out
                · intro i hi
                  rw [List.getD_eq_getElem?_getD, List.getElem?_set_ne (by omega), ← List.getD_eq_getElem?_getD]
                  exact HZU.out i (by omega)
              case measure => simp [intOf] <;> omega
      · obtain rfl : k = n := by omega
        have hrd := hB.rd
        rw [hzl.out] at hrd
        have hv : val zs = val xs * val ys := by rw [HV.out, List.take_of_length_le (by rw [HL.out]; omega)]
        have htr := trim_any (c := k + n') _ hrd hzw.out (Nat.le_refl _) (by omega)
        have HT := Lib.hid htr
        have HD := Lib.hid hrd
        have HV2 := Lib.hid hv
        clear htr hrd hv
        go_wp2_with fail
        refine HT.out.mono ?_
        rintro e w3 ⟨m, hm, ht, rfl, rfl⟩
        clear HT
        go_wp2
        go_ret
        have r3 := HD.out.take (j := m) (by rw [← hzl.out]; exact hm)
        rw [ht, HV2.out] at r3
        exact ⟨_, m, m, rfl, r3, Nat.le_refl _, by have := hzl.out; omega, by rw [HG.out]; exact hb⟩
  · intro f1 f2
    go_enter Tryz.func88, Tryz.ntmps88
    go_wp2_with (at_make; refine wpList_make_lst (kx := .i64) (ky := .i64) (n := n + n') (c := n + n') Tryz.elemU32 Tryz.underlying22 rfl rfl (congrArg (Value.int .i64) (by omega)) (congrArg (Value.int .i64) (by omega)) (Nat.le_refl _) (by omega) (by omega) ?_)
    intro w1 B1 b1 l1
    generalize hg : w.heap.size = g at *
    have HG := Lib.hid hg
    clear hg
    have r1 := hr.below b1
    have r1' := hr'.below b1
    clear hr hr' l1
    go_wp2
    go_loopw [6, 7, 8, 9, 10, 11, 46, 68] (fun _ _ _ _ _ _ i _ wr => ∃ (k : Nat) (zs : List Nat), k ≤ n ∧ i = .int .i64 k ∧ Hid (zs.length = n + n') ∧ Hid (W32 zs) ∧ Hid (val zs = val (xs.take k) * val ys) ∧ Hid (∀ j, k + n' ≤ j → zs.getD j 0 = 0) ∧ Buf .u32 86 wr g zs ∧ Rd .u32 wr g A n xs ∧ Rd .u32 wr g A' n' ys ∧ Below g w wr) (fun _ _ _ _ _ _ i _ _ => n - (intOf i).toNat)
    case atStart => exact ⟨0, _, by omega, rfl, by simp [Hid], W32.rep _, by rw [val_rep, List.take_zero]; simp [val, Hid], fun j _ => by rw [List.getD_eq_getElem?_getD]; simp only [List.getElem?_replicate]; split <;> rfl, B1, r1, r1', b1⟩
    case round =>
      obtain ⟨k, zs, hk, rfl, hzl, hzw, HV, HZ, hB, q, q', hb⟩ := hrel
      clear B1 r1 r1' b1
      by_cases hlt : k < n
      · obtain ⟨b1, o1, rfl, hb1, hc1⟩ := q.at_ hlt
        have hdl := HX.out.getD k
        have HTS := Lib.hid (val_take_succ xs k)
        by_cases hd0 : xs.getD k 0 = 0
        · rw [hd0] at hc1 HTS
          have HV2 : Hid (val zs = val (xs.take (k + 1)) * val ys) := by
            unfold Hid; rw [HTS.out, Nat.mul_zero, Nat.add_zero]; exact HV.out
          clear hd0 hdl
          go_wp2
          go_roundw
          case rel => exact ⟨k + 1, zs, by omega, by go_num, hzl, hzw, HV2, fun j hj => HZ.out j (by omega), hB, q, q', hb⟩
          case measure => simp [intOf] <;> omega
        · generalize xs.getD k 0 = d at *
          have hd0' : ((d : Int) == 0) = false := by simp; omega
          clear hd0
          go_wp2
          go_loopw [8, 10, 11, 68] (fun cv _ _ i wr => ∃ (j cr : Nat) (us : List Nat), j ≤ n' ∧ i = .int .i64 j ∧ cv = .int .u64 cr ∧ cr < 4294967296 ∧ Hid (us.length = n + n') ∧ Hid (W32 us) ∧ Hid (val us + 4294967296 ^ (k + j) * cr = val zs + 4294967296 ^ k * (d * val (ys.take j))) ∧ Hid (∀ i, k + n' ≤ i → us.getD i 0 = 0) ∧ Buf .u32 86 wr g us ∧ Rd .u32 wr g (some ⟨b1, o1, none⟩) n xs ∧ Rd .u32 wr g A' n' ys ∧ Below g w wr) (fun _ _ _ i _ => n' - (intOf i).toNat)
          case atStart => exact ⟨0, 0, zs, by omega, rfl, rfl, by omega, hzl, hzw, by simp [val, Hid], HZ, hB, q, q', hb⟩
          case round =>
            obtain ⟨j, cr, us, hj, rfl, rfl, hcr, hul, huw, HU, HZU, hBu, p, p', hbu⟩ := hrel
            clear hB q q' hb
            by_cases hltj : j < n'
            · obtain ⟨b2, o2, rfl, hb2, hc2⟩ := p'.at_ hltj
              have hfl := HY.out.getD j
              have hc := hBu.cell (i := k + j) (by rw [hul.out]; omega)
              have hf := hBu.frozen (k + j)
              have hol := huw.out.getD (k + j)
              have HTJ := Lib.hid (val_take_succ ys j)
              obtain ⟨pp, s1, s2, e1, e2, e3, es, hsq, hsm⟩ := mul_facts hdl hfl hol hcr
              have HVS := Lib.hid (mul_step HU.out (Nat.pow_add 4294967296 k j) s2 es)
              have HSV := Lib.hid (val_set us (k + j) (s2 % 4294967296) (by rw [hul.out]; omega))
              rw [← HTJ.out] at HVS
              generalize ys.getD j 0 = f at *
              generalize us.getD (k + j) 0 = z at *
              have HF : Hid (val (us.set (k + j) (s2 % 4294967296)) + 4294967296 ^ (k + (j + 1)) * (s2 / 4294967296) = val zs + 4294967296 ^ k * (d * val (ys.take (j + 1)))) := by
                have h1 := HVS.out
                have h2 := HSV.out
                have h3 : 4294967296 ^ (k + (j + 1)) = 4294967296 ^ (k + j) * 4294967296 := by rw [← Nat.add_assoc, Nat.pow_succ]
                unfold Hid
                rw [h3]
                generalize 4294967296 ^ (k + j) = P at *
                omega
              clear es
              go_wp2
              go_roundw
              case rel =>
                refine ⟨j + 1, s2 / 4294967296, us.set (k + j) (s2 % 4294967296), by omega, by go_num, by go_num, hsq, ?_, huw.out.set _ hsm, HF, ?_, ?_, p.setCell (Nat.le_refl _) _, p'.setCell (Nat.le_refl _) _, hbu.setCell (Nat.le_refl _) _⟩
                · unfold Hid; rw [List.length_set]; exact hul.out
                · intro i hi
                  rw [List.getD_eq_getElem?_getD, List.getElem?_set_ne (by omega), ← List.getD_eq_getElem?_getD]
                  exact HZU.out i hi
                · exact hBu.setZ _ (by omega)
              case measure => simp [intOf] <;> omega
            · obtain rfl : j = n' := by omega
              have hc := hBu.cell (i := k + j) (by rw [hul.out]; omega)
              have hf := hBu.frozen (k + j)
              have HSV := Lib.hid (val_set us (k + j) cr (by rw [hul.out]; omega))
              rw [HZU.out (k + j) (by omega)] at HSV
              have HF : Hid (val (us.set (k + j) cr) = val (xs.take (k + 1)) * val ys) := by
                have h1 := HU.out
                have h2 := HSV.out
                rw [Nat.mul_zero, Nat.add_zero] at h2
                unfold Hid
                rw [h2, h1, List.take_of_length_le (by rw [HL'.out]; omega), HV.out, HTS.out, Nat.add_mul, Nat.mul_assoc]
              generalize us.getD (k + j) 0 = z at *
              go_wp2
              go_roundw
              case rel =>
                refine ⟨k + 1, us.set (k + j) cr, by omega, by go_num, ?_, huw.out.set _ hcr, HF, ?_, hBu.setZ _ (by omega), p.setCell (Nat.le_refl _) _, p'.setCell (Nat.le_refl _) _, hbu.setCell (Nat.le_refl _) _⟩
                · unfold Hid; rw [List.length_set]; exact hul.out
                · intro i hi
                  rw [List.getD_eq_getElem?_getD, List.getElem?_set_ne (by omega), ← List.getD_eq_getElem?_getD]
                  exact HZU.out i (by omega)
              case measure => simp [intOf] <;> omega
      · obtain rfl : k = n := by omega
        have hrd := hB.rd
        rw [hzl.out] at hrd
        have hv : val zs = val xs * val ys := by rw [HV.out, List.take_of_length_le (by rw [HL.out]; omega)]
        have htr := trim_any (c := k + n') _ hrd hzw.out (Nat.le_refl _) (by omega)
        have HT := Lib.hid htr
        have HD := Lib.hid hrd
        have HV2 := Lib.hid hv
        clear htr hrd hv
        go_wp2_with fail
        refine HT.out.mono ?_
        rintro e w3 ⟨m, hm, ht, rfl, rfl⟩
        clear HT
        go_wp2
        go_ret
        have r3 := HD.out.take (j := m) (by rw [← hzl.out]; exact hm)
        rw [ht, HV2.out] at r3
        exact ⟨_, m, m, rfl, r3, Nat.le_refl _, by have := hzl.out; omega, by rw [HG.out]; exact hb⟩

set_option maxRecDepth 100000 in
theorem mulMag_one {A A' : Option Addr} {c c' x y : Nat} (w : World) (hr : Rd .u32 w w.heap.size A 1 [x]) (hr' : Rd .u32 w w.heap.size A' 1 [y]) (hx : x < 4294967296) (hy : y < 4294967296) :
    Calls Tryz.prog 88 #[.slice A 1 c, .slice A' 1 c'] w (RetMag w (x * y)) := by
  obtain ⟨b1, o1, rfl, l1, hc1⟩ := hr.at_ (j := 0) (by omega)
  obtain ⟨b2, o2, rfl, l2, hc2⟩ := hr'.at_ (j := 0) (by omega)
  simp at hc1 hc2
  have hb := mul_bound hx hy
  have hf := fun W => fromWord_any (x * y) W (by omega)
  have e1 : IntKind.u64.wrap ((x : Int) * (y : Int)) = ((x * y : Nat) : Int) := by
    have e : ((x * y : Nat) : Int) = (x : Int) * (y : Int) := by simp
    rw [← e, IntKind.wrap_u64]; omega
  have HF := Lib.hid hf
  clear hf hb
  generalize x * y = p at *
  go_enter Tryz.func88, Tryz.ntmps88
  go_wp2
  go_still_tail 9, (by kernel_rfl)
  go_wp2_with fail
  rw [e1]
  refine (HF.out _).mono ?_
  rintro e w3 ⟨A3, n3, c3, rfl, r3, h3, h4, hb3⟩
  go_wp2
  go_ret
  exact ⟨A3, n3, c3, rfl, r3, h3, h4, (below_drewN w 1).trans hb3⟩

theorem mulMag_zero {A A' : Option Addr} {n n' c c' : Nat} (w : World) (h : n = 0 ∨ n' = 0) :
    Calls Tryz.prog 88 #[.slice A n c, .slice A' n' c'] w (RetMag w 0) := by
  have fin : RetMag w 0 (.returned (.slice none 0 0)) w := ⟨none, 0, 0, rfl, by rw [digits_zero]; exact Rd.nil, by omega, by omega, Below.refl _ _⟩
  have F := Lib.hid fin
  clear fin
  by_cases h0 : n = 0
  · have t0 : ((n : Int) == 0) = true := by simp [h0]
    clear h0 h
    go_enter Tryz.func88, Tryz.ntmps88
    go_wp2
    go_ret
    exact F.out
  · have t0 : ((n : Int) == 0) = false := by simp; omega
    have t1 : ((n' : Int) == 0) = true := by simp; omega
    clear h0 h
    go_enter Tryz.func88, Tryz.ntmps88
    go_wp2
    go_ret
    exact F.out

theorem mulMag_any {A A' : Option Addr} {n n' c c' a b : Nat} (w : World) (hr : Rd .u32 w w.heap.size A n (digits a)) (hr' : Rd .u32 w w.heap.size A' n' (digits b)) (hn : n ≤ 1099511627776) (hn' : n' ≤ 1099511627776) :
    Calls Tryz.prog 88 #[.slice A n c, .slice A' n' c'] w (RetMag w (a * b)) := by
  by_cases h0 : n = 0 ∨ n' = 0
  · have : a * b = 0 := by
      rcases h0 with h | h
      · have := hr.len; rw [h] at this; rw [(digits_nil_iff a).1 this, Nat.zero_mul]
      · have := hr'.len; rw [h] at this; rw [(digits_nil_iff b).1 this, Nat.mul_zero]
    rw [this]; exact mulMag_zero w h0
  · by_cases h1 : n = 1 ∧ n' = 1
    · obtain ⟨rfl, rfl⟩ := h1
      obtain ⟨x, hx, ex, rfl⟩ := digits_single hr.len
      obtain ⟨y, hy, ey, rfl⟩ := digits_single hr'.len
      rw [ex] at hr
      rw [ey] at hr'
      exact mulMag_one w hr hr' hx hy
    · have := mulMag_long (c := c) (c' := c') w hr hr' (digits_w32 a) (digits_w32 b) hn hn' (by omega) (by omega) h1
      rwa [val_digits, val_digits] at this
end Go.Proofs.YtociocengfjioaaGreatDoor
