/- Walks of addMag and subMag. -/
import Derived.Test.YtociocengfjioaaGreatDoorIntA
import Derived.Test.YtociocengfjioaaGreatDoorIntPlain2
namespace Go.Proofs.YtociocengfjioaaGreatDoor
open Go.RowKit

set_option maxRecDepth 100000 in
theorem addMag_ge {A A' : Option Addr} {n n' c c' : Nat} {xs ys : List Nat} (w : World) (hr : Rd .u32 w w.heap.size A n xs) (hr' : Rd .u32 w w.heap.size A' n' ys) (hx : W32 xs) (hy : W32 ys) (hn : n ≤ 1099511627776) (hnn : n' ≤ n) :
    Calls Tryz.prog 121 #[.slice A n c, .slice A' n' c'] w (RetMag w (val xs + val ys)) := by
  have HL := Lib.hid hr.len
  have HL' := Lib.hid hr'.len
  have HX := Lib.hid hx
  have HY := Lib.hid hy
  clear hx hy
  go_enter Tryz.func121, Tryz.ntmps121
  go_wp2_with (at_make; refine wpList_make_lst (kx := .i64) (ky := .i64) (n := n + 1) (c := n + 1) Tryz.elemU32 Tryz.underlying22 rfl rfl (congrArg (Value.int .i64) (by omega)) (congrArg (Value.int .i64) (by omega)) (Nat.le_refl _) (by omega) (by omega) ?_)
  intro w1 B1 b1 l1
  rw [← fill_nil] at B1
  generalize hg : w.heap.size = g at *
  have HG := Lib.hid hg
  clear hg
  have r1 := hr.below b1
  have r1' := hr'.below b1
  have hsz : g < w1.heap.size := l1
  clear hr hr' l1
  go_wp2
  go_loopw [6, 7, 8, 22] (fun cv _ _ i wr => ∃ (k cr : Nat) (ds : List Nat), k ≤ n ∧ i = .int .i64 k ∧ cv = .int .u64 cr ∧ cr ≤ 1 ∧ Hid (ds.length = k) ∧ Hid (W32 ds) ∧ Hid (val ds + 4294967296 ^ k * cr = val (xs.take k) + val (ys.take k)) ∧ Buf .u32 86 wr g (fill ds (n + 1)) ∧ Rd .u32 wr g A n xs ∧ Rd .u32 wr g A' n' ys ∧ Below g w wr) (fun _ _ _ i _ => n - (intOf i).toNat)
  case atStart => exact ⟨0, 0, [], by omega, rfl, rfl, by omega, rfl, W32.nil, rfl, B1, r1, r1', b1⟩
  case round =>
    obtain ⟨k, cr, ds, hk, rfl, rfl, hcr, hdl, hdw, HV, hB, q, q', hb⟩ := hrel
    clear B1 r1 r1' b1
    by_cases hlt : k < n
    · obtain ⟨b1, o1, rfl, hb1, hc1⟩ := q.at_ hlt
      have hxl := HX.out.getD k
      have hc : wr.cell? ⟨g, k, none⟩ = some (.int .u32 (((fill ds (n + 1)).getD k 0 : Nat) : Int)) := hB.cell (by rw [fill_len (by rw [hdl.out]; omega)]; omega)
      have hf := hB.frozen k
      have HVS := Lib.hid (add_step (x := xs.getD k 0) (y := ys.getD k 0) HV.out)
      rw [← val_take_succ, ← val_take_succ, ← Nat.pow_succ] at HVS
      have hset : ∀ d, (fill ds (n + 1)).set k d = fill (ds ++ [d]) (n + 1) := fun d => fill_set d (by omega) hdl.out
      have HSET := Lib.hid hset
      have hlen : ∀ d, (ds ++ [d]).length = k + 1 := fun d => by rw [List.length_append, hdl.out]; rfl
      have HLEN := Lib.hid hlen
      have hval : ∀ d, val (ds ++ [d]) = val ds + 4294967296 ^ k * d := fun d => by rw [val_snoc, hdl.out]
      have HVAL := Lib.hid hval
      clear hset hlen hval
      generalize xs.getD k 0 = x at *
      generalize (fill ds (n + 1)).getD k 0 = old at *
      by_cases hlt' : k < n'
      · obtain ⟨b2, o2, rfl, hb2, hc2⟩ := q'.at_ hlt'
        have hyl := HY.out.getD k
        generalize ys.getD k 0 = y at *
        go_wp2
        go_roundw
        case rel =>
          refine ⟨k + 1, (cr + x + y) / 4294967296, ds ++ [(cr + x + y) % 4294967296], by omega, by go_num, by go_num, by omega, HLEN.out _, hdw.out.append (W32.mk (by omega) W32.nil), ?_, ?_, q.setCell (Nat.le_refl _) _, q'.setCell (Nat.le_refl _) _, hb.setCell (Nat.le_refl _) _⟩
          · unfold Hid; rw [HVAL.out]; exact HVS.out
          · rw [← HSET.out]; exact hB.setZ k (by omega)
        case measure => simp [intOf] <;> omega
      · have hy0 : ys.getD k 0 = 0 := getD_beyond ys k (by rw [HL'.out]; omega)
        rw [hy0] at HVS
        clear hy0
        go_wp2
        go_roundw
        case rel =>
          refine ⟨k + 1, (cr + x + 0) / 4294967296, ds ++ [(cr + x + 0) % 4294967296], by omega, by go_num, by go_num, by omega, HLEN.out _, hdw.out.append (W32.mk (by omega) W32.nil), ?_, ?_, q.setCell (Nat.le_refl _) _, q'.setCell (Nat.le_refl _) _, hb.setCell (Nat.le_refl _) _⟩
          · unfold Hid; rw [HVAL.out]; exact HVS.out
          · rw [← HSET.out]; exact hB.setZ k (by omega)
        case measure => simp [intOf] <;> omega
    · obtain rfl : k = n := by omega
      have hc : wr.cell? ⟨g, k, none⟩ = some (.int .u32 (((fill ds (k + 1)).getD k 0 : Nat) : Int)) := hB.cell (by rw [fill_len (by rw [hdl.out]; omega)]; omega)
      have hf := hB.frozen k
      have hB2 := hB.set_ k cr
      rw [fill_set cr (by omega) hdl.out, fill_full (by rw [List.length_append, hdl.out]; rfl)] at hB2
      have hv : val (ds ++ [cr]) = val xs + val ys := by
        have h := HV.out
        rw [List.take_of_length_le (by rw [HL.out]; omega), List.take_of_length_le (by rw [HL'.out]; omega)] at h
        rw [val_snoc, hdl.out, h]
      have hw32 : W32 (ds ++ [cr]) := hdw.out.append (W32.mk (by omega) W32.nil)
      have hlen : (ds ++ [cr]).length = k + 1 := by rw [List.length_append, hdl.out]; rfl
      have hrd := hB2.rd
      rw [hlen] at hrd
      have htr := trim_any (c := k + 1) _ hrd hw32 (Nat.le_refl _) (by omega)
      have HT := Lib.hid htr
      have HD := Lib.hid hrd
      have HV2 := Lib.hid hv
      have HLen := Lib.hid hlen
      have HB3 := Lib.hid (hb.setCell (p := ⟨g, k, none⟩) (Nat.le_refl _) (.int .u32 (cr : Int)))
      generalize ds ++ [cr] = zs at *
      clear htr hrd hv hlen hB2 hw32
      go_wp2_with fail
      refine HT.out.mono ?_
      rintro e w3 ⟨m, hm, ht, rfl, rfl⟩
      clear HT
      go_wp2
      go_ret
      have r3 := HD.out.take (j := m) (by rw [← HLen.out]; exact hm)
      rw [ht, HV2.out] at r3
      exact ⟨_, m, m, rfl, r3, Nat.le_refl _, by have := HLen.out; omega, by rw [HG.out]; exact HB3.out⟩
set_option maxRecDepth 100000 in
theorem addMag_lt {A A' : Option Addr} {n n' c c' : Nat} {xs ys : List Nat} (w : World) (hr : Rd .u32 w w.heap.size A n xs) (hr' : Rd .u32 w w.heap.size A' n' ys) (hx : W32 xs) (hy : W32 ys) (hn : n ≤ 1099511627776) (hnn : n' < n) :
    Calls Tryz.prog 121 #[.slice A' n' c', .slice A n c] w (RetMag w (val xs + val ys)) := by
  have HL := Lib.hid hr.len
  have HL' := Lib.hid hr'.len
  have HX := Lib.hid hx
  have HY := Lib.hid hy
  clear hx hy
  go_enter Tryz.func121, Tryz.ntmps121
  go_wp2_with (at_make; refine wpList_make_lst (kx := .i64) (ky := .i64) (n := n + 1) (c := n + 1) Tryz.elemU32 Tryz.underlying22 rfl rfl (congrArg (Value.int .i64) (by omega)) (congrArg (Value.int .i64) (by omega)) (Nat.le_refl _) (by omega) (by omega) ?_)
  intro w1 B1 b1 l1
  rw [← fill_nil] at B1
  generalize hg : w.heap.size = g at *
  have HG := Lib.hid hg
  clear hg
  have r1 := hr.below b1
  have r1' := hr'.below b1
  have hsz : g < w1.heap.size := l1
  clear hr hr' l1
  go_wp2
  go_loopw [6, 7, 8, 22] (fun cv _ _ i wr => ∃ (k cr : Nat) (ds : List Nat), k ≤ n ∧ i = .int .i64 k ∧ cv = .int .u64 cr ∧ cr ≤ 1 ∧ Hid (ds.length = k) ∧ Hid (W32 ds) ∧ Hid (val ds + 4294967296 ^ k * cr = val (xs.take k) + val (ys.take k)) ∧ Buf .u32 86 wr g (fill ds (n + 1)) ∧ Rd .u32 wr g A n xs ∧ Rd .u32 wr g A' n' ys ∧ Below g w wr) (fun _ _ _ i _ => n - (intOf i).toNat)
  case atStart => exact ⟨0, 0, [], by omega, rfl, rfl, by omega, rfl, W32.nil, rfl, B1, r1, r1', b1⟩
  case round =>
    obtain ⟨k, cr, ds, hk, rfl, rfl, hcr, hdl, hdw, HV, hB, q, q', hb⟩ := hrel
    clear B1 r1 r1' b1
    by_cases hlt : k < n
    · obtain ⟨b1, o1, rfl, hb1, hc1⟩ := q.at_ hlt
      have hxl := HX.out.getD k
      have hc : wr.cell? ⟨g, k, none⟩ = some (.int .u32 (((fill ds (n + 1)).getD k 0 : Nat) : Int)) := hB.cell (by rw [fill_len (by rw [hdl.out]; omega)]; omega)
      have hf := hB.frozen k
      have HVS := Lib.hid (add_step (x := xs.getD k 0) (y := ys.getD k 0) HV.out)
      rw [← val_take_succ, ← val_take_succ, ← Nat.pow_succ] at HVS
      have hset : ∀ d, (fill ds (n + 1)).set k d = fill (ds ++ [d]) (n + 1) := fun d => fill_set d (by omega) hdl.out
      have HSET := Lib.hid hset
      have hlen : ∀ d, (ds ++ [d]).length = k + 1 := fun d => by rw [List.length_append, hdl.out]; rfl
      have HLEN := Lib.hid hlen
      have hval : ∀ d, val (ds ++ [d]) = val ds + 4294967296 ^ k * d := fun d => by rw [val_snoc, hdl.out]
      have HVAL := Lib.hid hval
      clear hset hlen hval
      generalize xs.getD k 0 = x at *
      generalize (fill ds (n + 1)).getD k 0 = old at *
      by_cases hlt' : k < n'
      · obtain ⟨b2, o2, rfl, hb2, hc2⟩ := q'.at_ hlt'
        have hyl := HY.out.getD k
        generalize ys.getD k 0 = y at *
        go_wp2
        go_roundw
        case rel =>
          refine ⟨k + 1, (cr + x + y) / 4294967296, ds ++ [(cr + x + y) % 4294967296], by omega, by go_num, by go_num, by omega, HLEN.out _, hdw.out.append (W32.mk (by omega) W32.nil), ?_, ?_, q.setCell (Nat.le_refl _) _, q'.setCell (Nat.le_refl _) _, hb.setCell (Nat.le_refl _) _⟩
          · unfold Hid; rw [HVAL.out]; exact HVS.out
          · rw [← HSET.out]; exact hB.setZ k (by omega)
        case measure => simp [intOf] <;> omega
      · have hy0 : ys.getD k 0 = 0 := getD_beyond ys k (by rw [HL'.out]; omega)
        rw [hy0] at HVS
        clear hy0
        go_wp2
        go_roundw
        case rel =>
          refine ⟨k + 1, (cr + x + 0) / 4294967296, ds ++ [(cr + x + 0) % 4294967296], by omega, by go_num, by go_num, by omega, HLEN.out _, hdw.out.append (W32.mk (by omega) W32.nil), ?_, ?_, q.setCell (Nat.le_refl _) _, q'.setCell (Nat.le_refl _) _, hb.setCell (Nat.le_refl _) _⟩
          · unfold Hid; rw [HVAL.out]; exact HVS.out
          · rw [← HSET.out]; exact hB.setZ k (by omega)
        case measure => simp [intOf] <;> omega
    · obtain rfl : k = n := by omega
      have hc : wr.cell? ⟨g, k, none⟩ = some (.int .u32 (((fill ds (k + 1)).getD k 0 : Nat) : Int)) := hB.cell (by rw [fill_len (by rw [hdl.out]; omega)]; omega)
      have hf := hB.frozen k
      have hB2 := hB.set_ k cr
      rw [fill_set cr (by omega) hdl.out, fill_full (by rw [List.length_append, hdl.out]; rfl)] at hB2
      have hv : val (ds ++ [cr]) = val xs + val ys := by
        have h := HV.out
        rw [List.take_of_length_le (by rw [HL.out]; omega), List.take_of_length_le (by rw [HL'.out]; omega)] at h
        rw [val_snoc, hdl.out, h]
      have hw32 : W32 (ds ++ [cr]) := hdw.out.append (W32.mk (by omega) W32.nil)
      have hlen : (ds ++ [cr]).length = k + 1 := by rw [List.length_append, hdl.out]; rfl
      have hrd := hB2.rd
      rw [hlen] at hrd
      have htr := trim_any (c := k + 1) _ hrd hw32 (Nat.le_refl _) (by omega)
      have HT := Lib.hid htr
      have HD := Lib.hid hrd
      have HV2 := Lib.hid hv
      have HLen := Lib.hid hlen
      have HB3 := Lib.hid (hb.setCell (p := ⟨g, k, none⟩) (Nat.le_refl _) (.int .u32 (cr : Int)))
      generalize ds ++ [cr] = zs at *
      clear htr hrd hv hlen hB2 hw32
      go_wp2_with fail
      refine HT.out.mono ?_
      rintro e w3 ⟨m, hm, ht, rfl, rfl⟩
      clear HT
      go_wp2
      go_ret
      have r3 := HD.out.take (j := m) (by rw [← HLen.out]; exact hm)
      rw [ht, HV2.out] at r3
      exact ⟨_, m, m, rfl, r3, Nat.le_refl _, by have := HLen.out; omega, by rw [HG.out]; exact HB3.out⟩
theorem addMag_any {A A' : Option Addr} {n n' c c' : Nat} {xs ys : List Nat} (w : World) (hr : Rd .u32 w w.heap.size A n xs) (hr' : Rd .u32 w w.heap.size A' n' ys) (hx : W32 xs) (hy : W32 ys) (hn : n ≤ 1099511627776) (hn' : n' ≤ 1099511627776) :
    Calls Tryz.prog 121 #[.slice A n c, .slice A' n' c'] w (RetMag w (val xs + val ys)) := by
  by_cases h : n' ≤ n
  · exact addMag_ge w hr hr' hx hy hn h
  · rw [Nat.add_comm]; exact addMag_lt w hr' hr hy hx hn' (by omega)

set_option maxRecDepth 100000 in
theorem subMag_any {A A' : Option Addr} {n n' c c' : Nat} {xs ys : List Nat} (w : World) (hr : Rd .u32 w w.heap.size A n xs) (hr' : Rd .u32 w w.heap.size A' n' ys) (hx : W32 xs) (hy : W32 ys) (hn : n ≤ 1099511627776) (hnn : n' ≤ n) (hle : val ys ≤ val xs) :
    Calls Tryz.prog 122 #[.slice A n c, .slice A' n' c'] w (RetMag w (val xs - val ys)) := by
  have HL := Lib.hid hr.len
  have HL' := Lib.hid hr'.len
  have HX := Lib.hid hx
  have HY := Lib.hid hy
  have HLE := Lib.hid hle
  clear hx hy hle
  go_enter Tryz.func122, Tryz.ntmps122
  go_wp2_with (at_make; refine wpList_make_lst (kx := .i64) (ky := .i64) (n := n) (c := n) Tryz.elemU32 Tryz.underlying22 rfl rfl rfl rfl (Nat.le_refl _) (by omega) (by omega) ?_)
  intro w1 B1 b1 l1
  rw [← fill_nil] at B1
  generalize hg : w.heap.size = g at *
  have HG := Lib.hid hg
  clear hg
  have r1 := hr.below b1
  have r1' := hr'.below b1
  have hsz : g < w1.heap.size := l1
  clear hr hr' l1
  go_wp2
  go_loopw [6, 7, 8, 9, 15] (fun cv _ _ _ i wr => ∃ (k cr : Nat) (ds : List Nat), k ≤ n ∧ i = .int .i64 k ∧ cv = .int .i64 cr ∧ cr ≤ 1 ∧ Hid (ds.length = k) ∧ Hid (W32 ds) ∧ Hid (val (xs.take k) + 4294967296 ^ k * cr = val ds + val (ys.take k)) ∧ Buf .u32 86 wr g (fill ds n) ∧ Rd .u32 wr g A n xs ∧ Rd .u32 wr g A' n' ys ∧ Below g w wr) (fun _ _ _ _ i _ => n - (intOf i).toNat)
  case atStart => exact ⟨0, 0, [], by omega, rfl, rfl, by omega, rfl, W32.nil, rfl, B1, r1, r1', b1⟩
  case round =>
    obtain ⟨k, cr, ds, hk, rfl, rfl, hcr, hdl, hdw, HV, hB, q, q', hb⟩ := hrel
    clear B1 r1 r1' b1
    by_cases hlt : k < n
    · obtain ⟨b1, o1, rfl, hb1, hc1⟩ := q.at_ hlt
      have hxl := HX.out.getD k
      have hyl := HY.out.getD k
      have hc : wr.cell? ⟨g, k, none⟩ = some (.int .u32 (((fill ds n).getD k 0 : Nat) : Int)) := hB.cell (by rw [fill_len (by rw [hdl.out]; omega)]; omega)
      have hf := hB.frozen k
      have HVS := Lib.hid (sub_step (x := xs.getD k 0) (y := ys.getD k 0) HV.out hxl hyl hcr)
      rw [← val_take_succ, ← val_take_succ, ← Nat.pow_succ] at HVS
      have HSET := Lib.hid (fun d => fill_set d hlt hdl.out)
      have HLEN : Hid (∀ d, (ds ++ [d]).length = k + 1) := fun d => by rw [List.length_append, hdl.out]; rfl
      have HVAL : Hid (∀ d, val (ds ++ [d]) = val ds + 4294967296 ^ k * d) := fun d => by rw [val_snoc, hdl.out]
      have HW := Lib.hid (sub_word (xs.getD k 0) (ys.getD k 0) cr hxl hyl hcr)
      by_cases hlt' : k < n'
      · obtain ⟨b2, o2, rfl, hb2, hc2⟩ := q'.at_ hlt'
        generalize xs.getD k 0 = x at *
        generalize (fill ds n).getD k 0 = old at *
        generalize ys.getD k 0 = y at *
        by_cases ht : x < cr + y
        · rw [if_pos ht] at HVS
          have ht' : decide ((x : Int) - (cr : Int) - (y : Int) < 0) = true := by simp; omega
          go_wp2
          go_roundw
          case rel =>
            refine ⟨k + 1, 1, ds ++ [(x + 4294967296 - cr - y) % 4294967296], by omega, by go_num, rfl, by omega, HLEN.out _, hdw.out.append (W32.mk (by omega) W32.nil), ?_, ?_, q.setCell (Nat.le_refl _) _, q'.setCell (Nat.le_refl _) _, hb.setCell (Nat.le_refl _) _⟩
            · unfold Hid; rw [HVAL.out]; exact HVS.out
            · rw [← HSET.out]; exact hB.setZ k HW.out
          case measure => simp [intOf] <;> omega
        · rw [if_neg ht] at HVS
          have ht' : decide ((x : Int) - (cr : Int) - (y : Int) < 0) = false := by simp; omega
          go_wp2
          go_roundw
          case rel =>
            refine ⟨k + 1, 0, ds ++ [(x + 4294967296 - cr - y) % 4294967296], by omega, by go_num, rfl, by omega, HLEN.out _, hdw.out.append (W32.mk (by omega) W32.nil), ?_, ?_, q.setCell (Nat.le_refl _) _, q'.setCell (Nat.le_refl _) _, hb.setCell (Nat.le_refl _) _⟩
            · unfold Hid; rw [HVAL.out]; exact HVS.out
            · rw [← HSET.out]; exact hB.setZ k (by first | exact HW.out | omega)
          case measure => simp [intOf] <;> omega
      · have hy0 : ys.getD k 0 = 0 := getD_beyond ys k (by rw [HL'.out]; omega)
        rw [hy0] at HVS HW
        clear hy0 hyl
        generalize xs.getD k 0 = x at *
        generalize (fill ds n).getD k 0 = old at *
        by_cases ht : x < cr
        · rw [if_pos (by omega)] at HVS
          have ht' : decide ((x : Int) - (cr : Int) < 0) = true := by simp; omega
          go_wp2
          go_roundw
          case rel =>
            refine ⟨k + 1, 1, ds ++ [(x + 4294967296 - cr - 0) % 4294967296], by omega, by go_num, rfl, by omega, HLEN.out _, hdw.out.append (W32.mk (by omega) W32.nil), ?_, ?_, q.setCell (Nat.le_refl _) _, q'.setCell (Nat.le_refl _) _, hb.setCell (Nat.le_refl _) _⟩
            · unfold Hid; rw [HVAL.out]; exact HVS.out
            · rw [← HSET.out]; exact hB.setZ k (by omega)
          case measure => simp [intOf] <;> omega
        · rw [if_neg (by omega)] at HVS
          have ht' : decide ((x : Int) - (cr : Int) < 0) = false := by simp; omega
          go_wp2
          go_roundw
          case rel =>
            refine ⟨k + 1, 0, ds ++ [(x + 4294967296 - cr - 0) % 4294967296], by omega, by go_num, rfl, by omega, HLEN.out _, hdw.out.append (W32.mk (by omega) W32.nil), ?_, ?_, q.setCell (Nat.le_refl _) _, q'.setCell (Nat.le_refl _) _, hb.setCell (Nat.le_refl _) _⟩
            · unfold Hid; rw [HVAL.out]; exact HVS.out
            · rw [← HSET.out]; exact hB.setZ k (by omega)
          case measure => simp [intOf] <;> omega
    · obtain rfl : k = n := by omega
      rw [fill_full hdl.out] at hB
      have hv : val ds = val xs - val ys := by
        have h := HV.out
        rw [List.take_of_length_le (by rw [HL.out]; omega), List.take_of_length_le (by rw [HL'.out]; omega)] at h
        have hl := val_lt hdw.out
        rw [hdl.out] at hl
        have h2 := HLE.out
        have hc0 : cr = 0 := by
          rcases Nat.eq_zero_or_pos cr with h0 | h0
          · exact h0
          · exfalso
            obtain rfl : cr = 1 := by omega
            rw [Nat.mul_one] at h
            omega
        subst hc0
        rw [Nat.mul_zero] at h
        omega
      have hrd := hB.rd
      rw [hdl.out] at hrd
      have htr := trim_any (c := k) _ hrd hdw.out (Nat.le_refl _) (by omega)
      have HT := Lib.hid htr
      have HD := Lib.hid hrd
      have HV2 := Lib.hid hv
      clear htr hrd hv
      go_wp2_with fail
      refine HT.out.mono ?_
      rintro e w3 ⟨m, hm, ht, rfl, rfl⟩
      clear HT
      go_wp2
      go_ret
      have r3 := HD.out.take (j := m) (by rw [← hdl.out]; exact hm)
      rw [ht, HV2.out] at r3
      exact ⟨_, m, m, rfl, r3, Nat.le_refl _, by have := hdl.out; omega, by rw [HG.out]; exact hb⟩
end Go.Proofs.YtociocengfjioaaGreatDoor
