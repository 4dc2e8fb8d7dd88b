/- Walks of SameInt and same. -/
import Derived.Test.YtociocengfjioaaGreatDoorIntJ
namespace Go.Proofs.YtociocengfjioaaGreatDoor
open Go.RowKit
set_option linter.unusedVariables false

theorem digits_inj {a b : Nat} (h : digits a = digits b) : a = b := by rw [← val_digits a, h, val_digits]
theorem take_all_eq {xs ys : List Nat} (hl : xs.length = ys.length) (h : xs.take xs.length = ys.take xs.length) : xs = ys := by
  rw [List.take_of_length_le (Nat.le_refl _), List.take_of_length_le (by omega)] at h; exact h
theorem take_ne {xs ys : List Nat} {k : Nat} (h : xs.getD k 0 ≠ ys.getD k 0) : xs ≠ ys := fun e => h (by rw [e])

set_option maxHeartbeats 1000000 in
set_option maxRecDepth 100000 in
theorem sameInt_any {s t : Bool} {A A' : Option Addr} {n n' c c' : Nat} {x y : Int} (w : World) (ha : CInt w s A n c x) (hb : CInt w t A' n' c' y) :
    Calls Tryz.prog 78 #[.agg #[.bool s, .slice A n c], .agg #[.bool t, .slice A' n' c']] w (RetV w (.bool (decide (x = y)))) := by
  obtain ⟨r, hs, hc1, hc2⟩ := ha
  obtain ⟨r', ht, hc1', hc2'⟩ := hb
  have HL := Lib.hid r.len
  have HL' := Lib.hid r'.len
  have K : Hid (s = t → digits x.natAbs = digits y.natAbs → x = y) := by
    intro h1 h2
    have h3 := digits_inj h2
    rw [hs, ht] at h1
    by_cases hx : x < 0
    · have : y < 0 := by simpa [hx] using h1
      omega
    · have : ¬ y < 0 := by simpa [hx] using h1
      omega
  have K1 : Hid (s ≠ t → x ≠ y) := fun h e => h (by rw [hs, ht, e])
  have K2 : Hid (digits x.natAbs ≠ digits y.natAbs → x ≠ y) := fun h e => h (by rw [e])
  obtain ⟨W, hW, bW, pa, pb⟩ := boxes2' w s t A A' n n' c c'
  obtain ⟨a0, a1, b0, b1⟩ := pa.cells pb
  replace r := r.call bW
  replace r' := r'.call bW
  have hnb : n ≤ 9223372036854775807 := by omega
  clear hs ht hc1 hc1' hc2 hc2'
  generalize digits x.natAbs = xs at *
  generalize digits y.natAbs = ys at *
  obtain ⟨fin, hfin⟩ : ∃ fin, fin = decide (x = y) := ⟨_, rfl⟩
  rw [← hfin]
  have HF := Lib.hid hfin
  clear hfin
  by_cases hst : s = t
  · subst hst
    by_cases hnn : n = n'
    · subst hnn
      go_enter Tryz.func78, Tryz.ntmps78
      go_wp2_with fail
      rw [← hW]
      clear hW
      go_wp2_with fail
      go_loopw [5] (fun i wr => ∃ k : Nat, k ≤ n ∧ i = .int .i64 (k : Int) ∧ Hid (xs.take k = ys.take k) ∧ ∃ q, Hid (wr = W.drewN q)) (fun i _ => n - (intOf i).toNat)
      case atStart => exact ⟨0, by omega, rfl, rfl, 0, rfl⟩
      case round =>
        obtain ⟨k, hk, rfl, HE, q, hw⟩ := hrel
        have hw' := hw.out
        subst hw'
        clear hw
        by_cases h0 : k < n
        · obtain ⟨b1', o1, rfl, _, hc1⟩ := r.at_ (j := k) h0
          obtain ⟨b2', o2, rfl, _, hc2⟩ := r'.at_ (j := k) h0
          have HT : Hid (xs.getD k 0 = ys.getD k 0 → xs.take (k + 1) = ys.take (k + 1)) := by
            intro e
            rw [take_getD xs k (by rw [HL.out]; exact h0), take_getD ys k (by rw [HL'.out]; exact h0), HE.out, e]
          have HN : Hid (xs.getD k 0 ≠ ys.getD k 0 → fin = false) := fun e => by rw [HF.out]; simpa using K2.out (take_ne e)
          generalize xs.getD k 0 = u at *
          generalize ys.getD k 0 = v at *
          have i1 : (0 : Int) ≤ (k : Int) := by omega
          have i2 : (k : Int) < (n : Int) := by omega
          by_cases e : u = v
          · have eb : ((u : Int) != (v : Int)) = false := by simp [e]
            have HE2 := Lib.hid (HT.out e)
            clear e
            go_wp2
            go_quiet (fail)
            go_wp2
            go_roundw
            case rel => exact ⟨k + 1, by omega, by go_num, HE2, _, rfl⟩
            case measure => simp [intOf] <;> omega
          · have eb : ((u : Int) != (v : Int)) = true := by simp; omega
            have HN2 := Lib.hid (HN.out e)
            clear e
            go_wp2
            go_quiet (fail)
            go_wp2
            go_ret
            exact ⟨by rw [HN2.out]; rfl, bthen (bthen bW (below_drewN _ _)) (below_drewN _ _)⟩
        · obtain rfl : k = n := by omega
          have HF2 : Hid (fin = true) := by
            unfold Hid
            rw [HF.out]
            have := HE.out
            rw [← HL.out] at this
            simpa using K.out (by simp) (take_all_eq (by rw [HL.out, HL'.out]) this)
          go_wp2
          go_ret
          exact ⟨by rw [HF2.out]; rfl, bthen bW (below_drewN _ _)⟩
    · have HF2 : Hid (fin = false) := by
        unfold Hid
        rw [HF.out]
        simpa using K2.out (fun e => hnn (by rw [← HL.out, ← HL'.out, e]))
      have hne : ((n : Int) != (n' : Int)) = true := by simp; omega
      go_enter Tryz.func78, Tryz.ntmps78
      go_wp2_with fail
      rw [← hW]
      clear hW
      go_wp2
      go_ret
      exact ⟨by rw [HF2.out]; rfl, bW⟩
  · have HF2 : Hid (fin = false) := by
      unfold Hid
      rw [HF.out]
      simpa using K1.out hst
    have hne : (s == t) = false := by simpa using hst
    go_enter Tryz.func78, Tryz.ntmps78
    go_wp2_with fail
    rw [← hW]
    clear hW
    go_wp2
    go_ret
    exact ⟨by rw [HF2.out]; rfl, bW⟩

end Go.Proofs.YtociocengfjioaaGreatDoor
