/- Walks of the small functions of the reference for integers. -/
import Derived.Test.YtociocengfjioaaGreatDoorSame
namespace Go.Proofs.YtociocengfjioaaGreatDoor
open Go.RowKit
set_option linter.unusedVariables false

def RetTrimR (A : Option Addr) (c : Nat) (xs : List Nat) (w : World) (e : Ending) (w' : World) : Prop :=
  ∃ m, m ≤ xs.length ∧ xs.take m = digits (val xs) ∧ e = .returned (.slice A m c) ∧ w = w'

set_option maxRecDepth 100000 in
theorem refTrim_any {A : Option Addr} {n c B : Nat} {xs : List Nat} (w : World) (hr : Rd .u32 w B A n xs) (hx : W32 xs) (hnc : n ≤ c) (hc : c ≤ 9223372036854775807) :
    Calls Tryz.prog 97 #[.slice A n c] w (RetTrimR A c xs w) := by
  have HL := Lib.hid hr.len
  have HX := Lib.hid hx
  clear hx
  go_enter Tryz.func97, Tryz.ntmps97
  go_wp2
  go_loop [3] (fun i => ∃ k : Nat, k ≤ n ∧ i = .int .i64 k ∧ Hid (∀ j, k ≤ j → xs.getD j 0 = 0)) (fun i => (intOf i).toNat)
  case atStart => exact ⟨n, Nat.le_refl _, rfl, fun j hj => by rw [List.getD_eq_getElem?_getD, List.getElem?_eq_none (by rw [HL.out]; exact hj)]; rfl⟩
  case round =>
    obtain ⟨k, hk, rfl, HZ⟩ := hrel
    by_cases h0 : 0 < k
    · obtain ⟨b, off, rfl, hbB, hcell⟩ := hr.at_ (j := k - 1) (by omega)
      by_cases hz : xs.getD (k - 1) 0 = 0
      · have HZ2 : Hid (∀ j, k - 1 ≤ j → xs.getD j 0 = 0) := fun j hj => by
          by_cases e : j = k - 1
          · rw [e]; exact hz
          · exact HZ.out j (by omega)
        rw [hz] at hcell
        clear hz
        go_wp2
        go_round
        case rel => exact ⟨k - 1, by omega, by go_num, HZ2⟩
        case measure => simp [intOf] <;> omega
      · have HZ2 := Lib.hid hz
        have hz' : ((xs.getD (k - 1) 0 : Nat) : Int) ≠ 0 := by omega
        generalize hy : xs.getD (k - 1) 0 = y at *
        have hyb : (((y : Nat) : Int) == 0) = false := by simp; omega
        have HY := Lib.hid hy
        clear hy hz hz'
        go_wp2
        go_ret
        exact ⟨k, by rw [HL.out]; exact hk, trim_digits xs HX.out k (by rw [HL.out]; exact hk) HZ.out (.inr (by rw [HY.out]; exact HZ2.out)), rfl, rfl⟩
    · obtain rfl : k = 0 := by omega
      go_wp2
      go_ret
      exact ⟨0, by omega, trim_digits xs HX.out 0 (by omega) HZ.out (.inl rfl), by cases A <;> rfl, rfl⟩

def RetTrimE (w : World) (B n c : Nat) (A : Option Addr) (v : Nat) (e : Ending) (w' : World) : Prop :=
  ∃ m, e = .returned (.slice A m c) ∧ Rd .u32 w B A m (digits v) ∧ m ≤ n ∧ w = w'
theorem refTrim_mag {A : Option Addr} {n c B : Nat} {xs : List Nat} (w : World) (hr : Rd .u32 w B A n xs) (hx : W32 xs) (hnc : n ≤ c) (hc : c ≤ 9223372036854775807) :
    Calls Tryz.prog 97 #[.slice A n c] w (RetTrimE w B n c A (val xs)) := by
  refine (refTrim_any w hr hx hnc hc).mono ?_
  rintro e w1 ⟨m, hm, ht, rfl, rfl⟩
  have hm' : m ≤ n := by have := hr.len; omega
  have r1 := hr.take hm'
  rw [ht] at r1
  exact ⟨m, rfl, r1, hm', rfl⟩

def RetW (w : World) (v : Value) (e : Ending) (w' : World) : Prop := e = .returned v ∧ w = w'
set_option maxRecDepth 100000 in
theorem digit_any {A : Option Addr} {n c B i : Nat} {xs : List Nat} (w : World) (hr : Rd .u32 w B A n xs) (hx : W32 xs) (hn : n ≤ 9223372036854775807) :
    Calls Tryz.prog 123 #[.slice A n c, .int .i64 i] w (RetW w (.int .u64 (xs.getD i 0 : Nat))) := by
  by_cases h : i < n
  · obtain ⟨b, off, rfl, _, hc⟩ := hr.at_ h
    have hl := hx.getD i
    generalize xs.getD i 0 = y at *
    have i1 : (0 : Int) ≤ (i : Int) := by omega
    have i2 : (i : Int) < (n : Int) := by omega
    go_enter Tryz.func123, Tryz.ntmps123
    go_wp2
    go_ret
    exact ⟨rfl, rfl⟩
  · have hd : decide ((i : Int) < (n : Int)) = false := by simp; omega
    have hd2 : decide (i < n) = false := by simp; omega
    have HZ : Hid (xs.getD i 0 = 0) := getD_beyond xs i (by rw [hr.len]; omega)
    rw [HZ.out]
    go_enter Tryz.func123, Tryz.ntmps123
    go_wp2
    go_ret
    exact ⟨rfl, rfl⟩

set_option maxRecDepth 100000 in
theorem make_any {A : Option Addr} {n c B : Nat} {xs : List Nat} (neg : Bool) (w : World) (hr : Rd .u32 w B A n xs) (hB : B ≤ w.heap.size) (hx : W32 xs) (hnc : n ≤ c) (hc : c ≤ 9223372036854775807) (hn : n ≤ 1099511627776) :
    Calls Tryz.prog 65 #[.bool neg, .slice A n c] w (RetInt w (sgn neg (val xs))) := by
  have pn := Pr.new w false none 0 0
  have al := bone w (.cells #[.bool false, .slice none 0 0] 24)
  have HT := Lib.hid (refTrim_mag (c := c) (w.alloc (.cells #[.bool false, .slice none 0 0] 24)) (hr.alloc hB _) hx hnc hc)
  go_enter Tryz.func65, Tryz.ntmps65
  go_wp2_with fail
  refine HT.out.mono ?_
  rintro e w1 ⟨m, rfl, r1, hm, rfl⟩
  clear HT hr hx
  generalize w.alloc (.cells #[.bool false, .slice none 0 0] 24) = W at *
  generalize val xs = v at *
  have km : m = 0 ↔ v = 0 := by rw [← r1.len]; exact digits_nil_iff v
  have HL := Lib.hid r1.len
  by_cases h0 : m = 0
  · obtain rfl := km.1 h0
    subst h0
    obtain ⟨q0, q1, f0, f1, k0, k1⟩ := pn.all (.bool false) (.slice none 0 0)
    go_wp2
    ((try simp only [Exit.inBlock, Exit.then]); refine bodyPost_ret (by simp [results, Tryz.results65, go_sem, k0, k1]; try rfl) rfl ?_)
    rw [sgn_zero]
    exact RetInt.stored (CInt.zero _) pn al (Nat.le_refl _)
  · have hne : ((m : Int) == 0) = false := by simp; omega
    have hv : Hid (v ≠ 0) := fun h => h0 (km.2 h)
    have q0 := pn.cell0
    have q1 := pn.cell1
    clear km
    go_wp2_with (at_builtin; refine wpList_append_lst Tryz.elemU32 Tryz.underlying22 (Own.nil (w0 := W) (Below.refl _ _)) r1 rfl rfl rfl rfl (by simp; omega) (by simp; omega) ?_; intro v2 w2 o2 _ _; rw [List.nil_append] at o2; obtain ⟨A2, n2, c2, rfl, r2, h2, h2'⟩ := o2.form'; have b2 := o2.2; have p2 := pn.call b2; obtain ⟨q0, q1, f0, f1, k0, k1⟩ := p2.all (.bool neg) (.slice A2 n2 c2))
    ((try simp only [Exit.inBlock, Exit.then]); refine bodyPost_ret (by simp [results, Tryz.results65, go_sem, k0, k1]; try rfl) rfl ?_)
    exact RetInt.stored (CInt.of r2 hv.out h2 h2') p2 (bthen al b2) (Nat.le_refl _)

theorem make_mag {A : Option Addr} {n c v : Nat} (neg : Bool) (w : World) (hr : Rd .u32 w w.heap.size A n (digits v)) (hnc : n ≤ c) (hc : c ≤ 9223372036854775807) (hn : n ≤ 1099511627776) :
    Calls Tryz.prog 65 #[.bool neg, .slice A n c] w (RetInt w (sgn neg v)) := by
  have h := make_any neg w hr (Nat.le_refl _) (digits_w32 v) hnc hc hn
  rw [val_digits] at h
  exact h

set_option maxRecDepth 100000 in
theorem canon_any {s : Bool} {A : Option Addr} {n c : Nat} {x : Int} (w : World) (ha : AInt w s A n c x) (hn : n ≤ 1099511627776) :
    Calls Tryz.prog 80 #[.agg #[.bool s, .slice A n c]] w (RetInt w x) := by
  obtain ⟨ds, h1, h2, h3, h4, rfl⟩ := ha
  obtain ⟨W, hW, bW, pa, pr⟩ := boxes1 w s A n c
  have HM := Lib.hid (make_any s W (h1.call bW) (Nat.le_refl _) h2 h3 h4 hn)
  have a0 := pa.cell0
  have a1 := pa.cell1
  generalize sgn s (val ds) = z at *
  go_enter Tryz.func80, Tryz.ntmps80
  go_wp2_with fail
  rw [← hW]
  clear hW
  refine HM.out.mono ?_
  rintro e w2 ⟨neg, A2, n2, c2, rfl, ci, d2⟩
  have p2 := pr.call d2
  obtain ⟨q0, q1, f0, f1, k0, k1⟩ := p2.all (.bool neg) (.slice A2 n2 c2)
  go_wp2
  ((try simp only [Exit.inBlock, Exit.then]); refine bodyPost_ret (by simp [results, Tryz.results80, go_sem, k0, k1]; try rfl) rfl ?_)
  exact RetInt.stored ci p2 (bthen bW d2) (by omega)
end Go.Proofs.YtociocengfjioaaGreatDoor
