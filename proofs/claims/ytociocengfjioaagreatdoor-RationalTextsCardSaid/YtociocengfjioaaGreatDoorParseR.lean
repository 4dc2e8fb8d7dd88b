/- Walks of the reference's digits, decimal and read. -/
import Derived.Test.YtociocengfjioaaGreatDoorParseMag
import Derived.Test.YtociocengfjioaaGreatDoorRefA
namespace Go.Proofs.YtociocengfjioaaGreatDoor
open Go.RowKit
set_option linter.unusedVariables false

set_option maxHeartbeats 1000000 in
set_option maxRecDepth 100000 in
theorem refDigits_any (t : ByteArray) (b : Bool) (w : World) (hs : t.size ≤ 1000) (hb : b = true ↔ (0 < t.size ∧ okD (bytesOf t))) :
    Calls Tryz.prog 77 #[.string t] w (RetW w (.bool b)) := by
  have HB := Lib.hid hb
  clear hb
  go_enter Tryz.func77, Tryz.ntmps77
  go_wp2
  go_loop [3] (fun i => ∃ k : Nat, k ≤ t.size ∧ i = .int .i64 k ∧ Hid (∀ j, j < k → 48 ≤ (bytesOf t).getD j 0 ∧ (bytesOf t).getD j 0 ≤ 57)) (fun i => (t.size - intOf i).toNat)
  case atStart => exact ⟨0, by omega, rfl, fun j hj => by omega⟩
  case round =>
    obtain ⟨k, hk, rfl, HK⟩ := hrel
    by_cases hlt : k < t.size
    · have i1 : (0 : Int) ≤ (k : Int) := by omega
      have i2 : (k : Int) < (t.size : Int) := by omega
      have ek := bytes_getD t k hlt
      have HF : Hid (t[k].toNat < 48 ∨ 57 < t[k].toNat → b = false) := by
        intro h
        rcases Bool.eq_false_or_eq_true b with e | e
        · have := (HB.out.1 e).2.getD (k := k) (by rw [bytesOf_length]; exact hlt)
          omega
        · exact e
      have EK := Lib.hid ek
      clear ek
      by_cases h48 : t[k].toNat < 48
      · have l1 : decide ((t[k].toNat : Int) < 48) = true := decide_eq_true (by omega)
        obtain rfl := HF.out (.inl h48)
        clear HB HF HK EK h48
        go_wp2
        go_ret
        exact ⟨rfl, rfl⟩
      · have l1 : decide ((t[k].toNat : Int) < 48) = false := decide_eq_false (by omega)
        by_cases h57 : 57 < t[k].toNat
        · have l2 : decide (57 < (t[k].toNat : Int)) = true := decide_eq_true (by omega)
          obtain rfl := HF.out (.inr h57)
          clear HB HF HK EK h48 h57
          go_wp2
          go_ret
          exact ⟨rfl, rfl⟩
        · have l2 : decide (57 < (t[k].toNat : Int)) = false := decide_eq_false (by omega)
          have H48 := Lib.hid h48
          have H57 := Lib.hid h57
          clear h48 h57 HF
          go_wp2
          go_round
          case rel =>
            refine ⟨k + 1, by omega, by go_num, fun j hj => ?_⟩
            rcases Nat.lt_succ_iff_lt_or_eq.1 hj with h | h
            · exact HK.out j h
            · have h1 := H48.out
              have h2 := H57.out
              rw [h, EK.out]
              omega
          case measure => simp [intOf] <;> omega
    · obtain rfl : k = t.size := by omega
      have hok : okD (bytesOf t) := okD_of (fun j hj => HK.out j (by rw [bytesOf_length] at hj; exact hj))
      have hb : b = decide (0 < t.size) := by
        by_cases h0 : 0 < t.size
        · rw [decide_eq_true h0]; exact HB.out.2 ⟨h0, hok⟩
        · rw [decide_eq_false h0]
          rcases Bool.eq_false_or_eq_true b with e | e
          · exact absurd (HB.out.1 e).1 h0
          · exact e
      have hdk : decide ((t.size : Int) < (t.size : Int)) = false := by simp
      clear HB HK hok
      by_cases h0 : 0 < t.size
      · have h1 : decide ((0 : Int) < (t.size : Int)) = true := decide_eq_true (by omega)
        obtain rfl : b = true := by rw [hb, decide_eq_true h0]
        clear hb
        go_wp2
        go_ret
        exact ⟨rfl, rfl⟩
      · have h1 : decide ((0 : Int) < (t.size : Int)) = false := decide_eq_false (by omega)
        obtain rfl : b = false := by rw [hb, decide_eq_false h0]
        have h2 : decide (0 < t.size) = false := decide_eq_false h0
        clear hb h0
        go_wp2
        go_ret
        exact ⟨rfl, rfl⟩

set_option maxHeartbeats 1000000 in
set_option maxRecDepth 100000 in
theorem refDecimal_any (t : ByteArray) (b : Bool) (w : World) (hs : t.size ≤ 1000) (hb : b = true ↔ Deci (bytesOf t)) :
    Calls Tryz.prog 75 #[.string t] w (RetW w (.bool b)) := by
  have hf : ¬ Deci (bytesOf t) → b = false := fun h => by
    rcases Bool.eq_false_or_eq_true b with e | e
    · exact absurd (hb.1 e) h
    · exact e
  by_cases ht0 : t.size = 0
  · obtain rfl := hf (fun h => h.1 (List.eq_nil_of_length_eq_zero (by rw [bytesOf_length]; exact ht0)))
    have g0 : ((t.size : Int) == 0) = true := by rw [ht0]; rfl
    clear hb hf ht0
    go_enter Tryz.func75, Tryz.ntmps75
    go_wp2
    go_ret
    exact ⟨rfl, rfl⟩
  · have ht1 : 0 < t.size := by omega
    have g0 : ((t.size : Int) == 0) = false := beq_eq_false_iff_ne.2 (by omega)
    have j0 : (0 : Int) < (t.size : Int) := by omega
    have e0 := bytes_getD t 0 ht1
    have hl := bytesOf_length t
    have hg : ¬ (t[0].toNat = 48 ∧ 1 < t.size) → (b = true ↔ (0 < t.size ∧ okD (bytesOf t))) := fun h =>
      ⟨fun e => ⟨ht1, (hb.1 e).2.1⟩, fun e => hb.2 ⟨fun n => by rw [n] at hl; simp at hl; omega, e.2, by rw [e0, hl]; exact h⟩⟩
    by_cases h48 : t[0].toNat = 48
    · have g1 : ((t[0].toNat : Int) == 48) = true := by rw [h48]; rfl
      by_cases h1 : 1 < t.size
      · have g2 : decide ((1 : Int) < (t.size : Int)) = true := decide_eq_true (by omega)
        obtain rfl := hf (fun h => h.2.2 ⟨by rw [e0]; exact h48, by rw [hl]; exact h1⟩)
        clear hb hf hg e0 h48 hl
        go_enter Tryz.func75, Tryz.ntmps75
        go_wp2
        go_ret
        exact ⟨rfl, rfl⟩
      · have g2 : decide ((1 : Int) < (t.size : Int)) = false := decide_eq_false (by omega)
        have H := Lib.hid (refDigits_any t b w hs (hg (fun h => h1 h.2)))
        clear hb hf hg e0 h48 hl
        go_enter Tryz.func75, Tryz.ntmps75
        go_wp2_with fail
        refine H.out.mono ?_
        rintro e w' ⟨rfl, rfl⟩
        go_wp2
        go_ret
        exact ⟨rfl, rfl⟩
    · have g1 : ((t[0].toNat : Int) == 48) = false := beq_eq_false_iff_ne.2 (by omega)
      have H := Lib.hid (refDigits_any t b w hs (hg (fun h => h48 h.1)))
      clear hb hf hg e0 h48 hl
      go_enter Tryz.func75, Tryz.ntmps75
      go_wp2_with fail
      refine H.out.mono ?_
      rintro e w' ⟨rfl, rfl⟩
      go_wp2
      go_ret
      exact ⟨rfl, rfl⟩

set_option maxHeartbeats 2000000 in
set_option maxRecDepth 100000 in
theorem refRead_any (s : ByteArray) (w : World) (hs : s.size ≤ 1000) (hd : okD (bytesOf s)) :
    Calls Tryz.prog 66 #[.string s] w (RetMA 86 w (nd (bytesOf s)) s.size) := by
  have HD := Lib.hid hd
  clear hd
  go_enter Tryz.func66, Tryz.ntmps66
  go_wp2
  go_loopw [3, 4] (fun mv i wr => ∃ (k : Nat) (A : Option Addr) (m c : Nat) (ms : List Nat), i = .int .i64 k ∧ mv = .slice A m c ∧ k ≤ s.size ∧ m ≤ k ∧ Own .u32 86 w wr (.slice A m c) ms ∧ Hid (W32 ms) ∧ Hid (val ms = nd ((bytesOf s).take k))) (fun _ i _ => (s.size - intOf i).toNat)
  case atStart => exact ⟨0, none, 0, 0, [], rfl, rfl, by omega, by omega, Own.nil (Below.refl _ _), W32.nil, by simp [Hid, val, nd]⟩
  case round =>
    obtain ⟨k, A, m, c, ms, rfl, rfl, hk, hm, oR, hw, HV⟩ := hrel
    obtain ⟨wo, rfl⟩ : ∃ wo : World, wo = wr := ⟨_, rfl⟩
    obtain ⟨hl, hnc, hcb⟩ := oR.len'
    have HL := Lib.hid hl
    clear hl
    by_cases hlt : k < s.size
    · have i1 : (0 : Int) ≤ (k : Int) := by omega
      have i2 : (k : Int) < (s.size : Int) := by omega
      have hc := HD.out.getD (k := k) (by rw [bytesOf_length]; exact hlt)
      have HS := Lib.hid (nd_take_succ (bytesOf s) k (by rw [bytesOf_length]; exact hlt))
      rw [bytes_getD s k hlt] at hc HS
      obtain ⟨C, hC⟩ : ∃ C, C = s[k].toNat - 48 := ⟨_, rfl⟩
      rw [← hC, ← HV.out] at HS
      have HC := Lib.hid hC
      have hC9 : C ≤ 9 := by omega
      have eC : (s[k].toNat : Int) - 48 = (C : Int) := by omega
      clear hC
      go_wp2_with fail
      go_loopw [5, 6] (fun cv i wr => ∃ (j cr : Nat) (ds : List Nat), j ≤ m ∧ i = .int .i64 j ∧ cv = .int .u64 cr ∧ cr < 4294967296 ∧ Hid (ds.length = j) ∧ Hid (W32 ds) ∧ Hid (val ds + 4294967296 ^ j * cr = val (ms.take j) * 10 + C) ∧ Own .u32 86 w wr (.slice A m c) (ds ++ ms.drop j)) (fun _ i _ => (m - intOf i).toNat)
      case atStart => exact ⟨0, C, [], by omega, rfl, by rw [← eC], by omega, rfl, W32.nil, by simp [Hid, val], oR⟩
      case round =>
        obtain ⟨j, cr, ds, hj, rfl, rfl, hcr, hdl, hdw, HU, oX⟩ := hrel
        clear oR
        by_cases hltj : j < m
        · obtain ⟨g, rfl, mu⟩ := oX.block (by omega)
          have hg1 : j < (ds ++ ms.drop j).length := by rw [List.length_append, List.length_drop, HL.out, hdl.out]; omega
          have hcc := mu.cell hg1
          have hf := mu.frozen j
          have e0 : (ds ++ ms.drop j).getD j 0 = ms.getD j 0 := by
            rw [drop_getD ms j (by rw [HL.out]; omega), List.getD_eq_getElem?_getD, List.getElem?_append_right (by rw [hdl.out]; omega), hdl.out, Nat.sub_self]
            rfl
          rw [e0] at hcc
          have hdd := hw.out.getD j
          have HTS := Lib.hid (val_take_succ ms j)
          have HSM := Lib.hid (fun y => set_mid2 ds ms j y (by rw [HL.out]; omega) hdl.out)
          generalize ms.getD j 0 = d at *
          obtain ⟨S, hS⟩ : ∃ S, S = cr + d * 10 := ⟨_, rfl⟩
          have HST := Lib.hid (muladd_step HU.out hS)
          rw [← HTS.out] at HST
          have HF : Hid (val (ds ++ [S % 4294967296]) + 4294967296 ^ (j + 1) * (S / 4294967296) = val (ms.take (j + 1)) * 10 + C) := by
            unfold Hid
            rw [val_snoc, hdl.out, Nat.pow_succ]
            exact HST.out
          have eS : (cr : Int) + 10 * (d : Int) = (S : Int) := by omega
          have hSb : S < 18446744073709551616 := by omega
          have hsm : S % 4294967296 < 4294967296 := Nat.mod_lt _ (by omega)
          have hsq : S / 4294967296 < 4294967296 := by omega
          have i3 : (0 : Int) ≤ (j : Int) := by omega
          have i4 : (j : Int) < (m : Int) := by omega
          clear hS mu e0 hg1 eC
          go_wp2
          go_roundw
          case rel =>
            refine ⟨j + 1, S / 4294967296, ds ++ [S % 4294967296], by omega, by go_num, by go_num, hsq, ?_, hdw.out.append (W32.mk hsm W32.nil), HF, ?_⟩
            · unfold Hid; rw [List.length_append, hdl.out]; rfl
            · rw [← HSM.out]; exact oX.setAt j (by omega)
          case measure => simp [intOf] <;> omega
        · obtain rfl : j = m := by omega
          rw [List.drop_of_length_le (by rw [HL.out]; omega), List.append_nil] at oX
          have hv := HU.out
          rw [List.take_of_length_le (by rw [HL.out]; omega), ← HS.out] at hv
          have HE := Lib.hid hv
          clear hv HU HS eC
          by_cases h0 : cr = 0
          · subst h0
            have b0 : decide ((0 : Int) < ((0 : Nat) : Int)) = false := by decide
            go_wp2
            go_roundw
            case rel => exact ⟨k + 1, A, j, c, ds, by go_num, rfl, by omega, by omega, oX, hdw, by have := HE.out; unfold Hid; rw [Nat.mul_zero, Nat.add_zero] at this; exact this⟩
            case measure => simp [intOf] <;> omega
          · have b0 : decide ((0 : Int) < (cr : Int)) = true := decide_eq_true (by omega)
            have hcw : cr % 4294967296 = cr := Nat.mod_eq_of_lt hcr
            have hdl2 := hdl.out
            go_wp2_with (at_builtin; refine wpList_append_lst Tryz.elemU32 Tryz.underlying22 (oX.alloc _) (Rd.one .u32 wr _ (y := cr) (by omega)) rfl rfl rfl rfl (by omega) (by omega) ?_; intro v1 w1 o1 _ _)
            obtain ⟨A1, n1, c1, rfl, r1, _, _⟩ := o1.form'
            have hl1 := r1.len
            go_wp2
            go_roundw
            case rel => exact ⟨k + 1, A1, n1, c1, ds ++ [cr], by go_num, rfl, by omega, by rw [← hl1, List.length_append, hdl.out]; simp; omega, o1, hdw.out.append (W32.mk hcr W32.nil), by unfold Hid; rw [val_snoc, hdl.out]; exact HE.out⟩
            case measure => simp [intOf] <;> omega
    · obtain rfl : k = s.size := by omega
      have hv := HV.out
      rw [List.take_of_length_le (by rw [bytesOf_length]; omega)] at hv
      have HE := Lib.hid hv
      have hdk : decide ((s.size : Int) < (s.size : Int)) = false := by simp
      clear hv HV HD
      go_wp2
      go_ret
      exact ⟨A, m, c, ms, rfl, oR, hw.out, HE.out, by omega⟩
end Go.Proofs.YtociocengfjioaaGreatDoor
