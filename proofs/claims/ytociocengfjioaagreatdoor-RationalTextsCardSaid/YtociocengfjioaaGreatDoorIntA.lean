/- Walks of the small functions of package integer. -/
import Derived.Test.YtociocengfjioaaGreatDoorProg
import Derived.Test.YtociocengfjioaaGreatDoorIntPlain
import Derived.Deep.QuietTactic
import Derived.BigQuiet
namespace Go.Proofs.YtociocengfjioaaGreatDoor
open Go.RowKit

theorem Tryz.elemU32 : IsElem Tryz.prog .u32 86 4 := by unfold IsElem; kernel_rfl

def RetTrim (A : Option Addr) (xs : List Nat) (w : World) (e : Ending) (w' : World) : Prop :=
  ∃ m, m ≤ xs.length ∧ xs.take m = digits (val xs) ∧ e = .returned (.slice A m m) ∧ w = w'

set_option maxRecDepth 100000 in
theorem trim_any {A : Option Addr} {n c B : Nat} {xs : List Nat} (w : World) (hr : Rd .u32 w B A n xs) (hx : W32 xs) (hnc : n ≤ c) (hc : c ≤ 9223372036854775807) :
    Calls Tryz.prog 89 #[.slice A n c] w (RetTrim A xs w) := by
  have HL := Lib.hid hr.len
  have HX := Lib.hid hx
  clear hx
  go_enter Tryz.func89, Tryz.ntmps89
  go_wp2
  go_loop [3] (fun i => ∃ k : Nat, k ≤ n ∧ i = .int .i64 k ∧ Hid (∀ j, k ≤ j → xs.getD j 0 = 0)) (fun i => (intOf i).toNat)
  case atStart => exact ⟨n, Nat.le_refl _, rfl, fun j hj => by rw [List.getD_eq_getElem?_getD, List.getElem?_eq_none (by rw [HL.out]; exact hj)]; rfl⟩
  case round =>
    obtain ⟨k, hk, rfl, HZ⟩ := hrel
    by_cases h0 : 0 < k
    · obtain ⟨b, off, rfl, hbB, hcell⟩ := hr.at_ (j := k - 1) (by omega)
      by_cases hz : xs.getD (k - 1) 0 = 0
      · have HZ2 : Hid (∀ j, k - 1 ≤ j → xs.getD j 0 = 0) := fun j hj => by
          by_cases e : j = k - 1
          · rw [e]; exact hz
          · exact HZ.out j (by omega)
        rw [hz] at hcell
        clear hz
        go_wp2
        go_round
        case rel => exact ⟨k - 1, by omega, by go_num, HZ2⟩
        case measure => simp [intOf] <;> omega
      · have HZ2 := Lib.hid hz
        have hz' : ((xs.getD (k - 1) 0 : Nat) : Int) ≠ 0 := by omega
        generalize hy : xs.getD (k - 1) 0 = y at *
        have hyb : (((y : Nat) : Int) == 0) = false := by simp; omega
        have HY := Lib.hid hy
        clear hy hz hz'
        go_wp2
        go_ret
        exact ⟨k, by rw [HL.out]; exact hk, trim_digits xs HX.out k (by rw [HL.out]; exact hk) HZ.out (.inr (by rw [HY.out]; exact HZ2.out)), rfl, rfl⟩
    · obtain rfl : k = 0 := by omega
      go_wp2
      go_ret
      exact ⟨0, by omega, trim_digits xs HX.out 0 (by omega) HZ.out (.inl rfl), by cases A <;> rfl, rfl⟩

/-! ### integers -/
def sgn (neg : Bool) (n : Nat) : Int := if neg then -(n : Int) else (n : Int)
/-- an api.Int, canonical or not -/
def AInt (w : World) (neg : Bool) (A : Option Addr) (n c : Nat) (z : Int) : Prop :=
  ∃ ds, Rd .u32 w w.heap.size A n ds ∧ W32 ds ∧ n ≤ c ∧ c ≤ 9223372036854775807 ∧ z = sgn neg (val ds)
/-- a canonical api.Int -/
def CInt (w : World) (neg : Bool) (A : Option Addr) (n c : Nat) (z : Int) : Prop :=
  Rd .u32 w w.heap.size A n (digits z.natAbs) ∧ neg = decide (z < 0) ∧ n ≤ c ∧ c ≤ 9223372036854775807
def RetInt (w : World) (z : Int) (e : Ending) (w' : World) : Prop :=
  ∃ neg A n c, e = .returned (.agg #[.bool neg, .slice A n c]) ∧ CInt w' neg A n c z ∧ Below w.heap.size w w'
theorem CInt.any {w : World} {neg : Bool} {A : Option Addr} {n c : Nat} {z : Int} (h : CInt w neg A n c z) : AInt w neg A n c z := by
  refine ⟨_, h.1, digits_w32 _, h.2.2.1, h.2.2.2, ?_⟩
  rw [val_digits, h.2.1, sgn]
  by_cases hz : z < 0
  · simp [hz]; omega
  · simp [hz]; omega
theorem CInt.call {w w' : World} {neg : Bool} {A : Option Addr} {n c : Nat} {z : Int} (h : CInt w neg A n c z) (hb : Below w.heap.size w w') : CInt w' neg A n c z := ⟨h.1.call hb, h.2⟩
theorem AInt.call {w w' : World} {neg : Bool} {A : Option Addr} {n c : Nat} {z : Int} (h : AInt w neg A n c z) (hb : Below w.heap.size w w') : AInt w' neg A n c z := by
  obtain ⟨ds, h1, h2⟩ := h
  exact ⟨ds, h1.call hb, h2⟩
theorem CInt.zero (w : World) : CInt w false none 0 0 0 := ⟨by rw [show Int.natAbs 0 = 0 from rfl, digits_zero]; exact Rd.nil, by decide, by omega, by omega⟩
theorem CInt.of {w : World} {neg : Bool} {A : Option Addr} {n c : Nat} {m : Nat} (h : Rd .u32 w w.heap.size A n (digits m)) (hm : m ≠ 0) (hc : n ≤ c) (hc2 : c ≤ 9223372036854775807) : CInt w neg A n c (sgn neg m) := by
  refine ⟨?_, ?_, hc, hc2⟩
  · have : (sgn neg m).natAbs = m := by unfold sgn; cases neg <;> simp
    rw [this]; exact h
  · unfold sgn; cases neg
    · simp
    · simp; omega

set_option maxRecDepth 100000 in
theorem wrap_any {A : Option Addr} {n c B : Nat} {xs : List Nat} (neg : Bool) (w : World) (hr : Rd .u32 w B A n xs) (hB : B ≤ w.heap.size) (hx : W32 xs) (hnc : n ≤ c) (hc : c ≤ 9223372036854775807) :
    Calls Tryz.prog 87 #[.bool neg, .slice A n c] w (RetInt w (sgn neg (val xs))) := by
  go_enter Tryz.func87, Tryz.ntmps87
  go_wp2_with fail
  refine (trim_any _ (hr.alloc hB _) hx hnc hc).mono ?_
  rintro e w1 ⟨m, hm, ht, rfl, rfl⟩
  have r1 := (hr.take (j := m) (by have := hr.len; omega))
  rw [ht] at r1
  have hmn : m ≤ n := by have := hr.len; omega
  have HM : Hid (m = 0 ↔ val xs = 0) := by
    have h1 := r1.len
    unfold Hid
    rw [← digits_nil_iff (val xs), h1]
  generalize val xs = v at *
  clear ht hm
  by_cases h0 : m = 0
  · obtain rfl := HM.out.1 h0
    subst h0
    go_wp2
    go_returns
    have h0 : sgn neg 0 = 0 := by cases neg <;> rfl
    rw [h0]
    exact ⟨_, _, _, _, rfl, CInt.zero _, (Below.refl _ _).alloc (Nat.le_refl _) _⟩
  · have hne : ((m : Int) == 0) = false := by simp; omega
    have hv : Hid (v ≠ 0) := fun h => h0 (HM.out.2 h)
    go_wp2
    go_returns
    exact ⟨_, _, _, _, rfl, CInt.of ((r1.alloc hB _).more (by simp; omega)) hv.out (Nat.le_refl _) (by omega), (Below.refl _ _).alloc (Nat.le_refl _) _⟩

/-- a slice that reads as the digits of a number, in memory that may be new -/
def RetMag (w : World) (m : Nat) (e : Ending) (w' : World) : Prop :=
  ∃ A n c, e = .returned (.slice A n c) ∧ Rd .u32 w' w'.heap.size A n (digits m) ∧ n ≤ c ∧ c ≤ 9223372036854775807 ∧ Below w.heap.size w w'

theorem digits_one {m : Nat} (h0 : m ≠ 0) (h : m < 4294967296) : digits m = [m] := by
  rw [digits_pos h0, show m / 4294967296 = 0 by omega, digits_zero, Nat.mod_eq_of_lt h]
theorem digits_two {m : Nat} (h0 : 4294967296 ≤ m) (h : m < 18446744073709551616) : digits m = [m % 4294967296, m / 4294967296] := by
  rw [digits_pos (by omega), digits_one (by omega) (by omega)]

set_option maxRecDepth 100000 in
theorem fromWord_any (m : Nat) (w : World) (h : m < 18446744073709551616) : Calls Tryz.prog 103 #[.int .u64 m] w (RetMag w m) := by
  by_cases h0 : m = 0
  · subst h0
    go_enter Tryz.func103, Tryz.ntmps103
    go_wp2
    go_ret
    exact ⟨none, 0, 0, rfl, by rw [digits_zero]; exact Rd.nil, by omega, by omega, Below.refl _ _⟩
  · have hb : ((m : Int) == 0) = false := by simp; omega
    by_cases h1 : m < 4294967296
    · have HD := Lib.hid (digits_one h0 h1)
      have hd1 : decide ((m : Int) < 4294967296) = true := by simp; omega
      clear h
      go_enter Tryz.func103, Tryz.ntmps103
      go_wp2
      go_ret
      exact ⟨_, _, _, rfl, by rw [HD.out]; exact (Rd.block .u32 w _ _ [m] _ rfl).more (by simp), by omega, by omega, (Below.refl _ _).alloc (Nat.le_refl _) _⟩
    · have HD := Lib.hid (digits_two (by omega) h)
      have hq : m / 4294967296 < 4294967296 := by omega
      have hd1 : decide ((m : Int) < 4294967296) = false := by simp; omega
      clear h
      go_enter Tryz.func103, Tryz.ntmps103
      go_wp2
      go_ret
      exact ⟨_, _, _, rfl, by rw [HD.out]; exact (Rd.block .u32 w _ _ [m % 4294967296, m / 4294967296] _ (by simp [cellsOf])).more (by simp), by omega, by omega, (Below.refl _ _).alloc (Nat.le_refl _) _⟩

/-- a number, the world but for draws as it was -/
def RetQ (w : World) (v : Value) (e : Ending) (w' : World) : Prop := e = .returned v ∧ ∃ n, w' = w.drewN n
theorem retQ3 {w : World} {v : Value} {e : Ending} {a b c : Nat} (h : e = .returned v) : RetQ w v e (((w.drewN a).drewN b).drewN c) := ⟨h, a + (b + c), by rw [World.drewN_drewN, World.drewN_drewN]⟩
theorem below_drewN (w : World) (n : Nat) : Below w.heap.size w (w.drewN n) := ⟨rfl, rfl, rfl, Nat.le_refl _, fun _ _ => rfl⟩

theorem u64_join (a b : Nat) (ha : a < 4294967296) (hb : b < 4294967296) : bits .or .u64 ((b : Int) * 4294967296) (a : Int) = ((a + 4294967296 * b : Nat) : Int) := by
  have h := u64_or_nat (b * 4294967296) a (by omega) (by omega)
  rw [nat_join 32 (b * 4294967296) a (by omega) (by omega)] at h
  rw [show ((b : Int) * 4294967296) = ((b * 4294967296 : Nat) : Int) by omega, h]
  omega

set_option maxRecDepth 100000 in
theorem toWord_any {A : Option Addr} {n c B m : Nat} (w : World) (hr : Rd .u32 w B A n (digits m)) (hm : m < 18446744073709551616) :
    Calls Tryz.prog 143 #[.slice A n c] w (RetQ w (.int .u64 m)) := by
  by_cases h0 : m = 0
  · subst h0
    rw [digits_zero] at hr
    obtain rfl : 0 = n := hr.len
    go_enter Tryz.func143, Tryz.ntmps143
    go_wp2
    go_ret
    exact ⟨rfl, 0, rfl⟩
  · by_cases h1 : m < 4294967296
    · rw [digits_one h0 h1] at hr
      obtain rfl : 1 = n := hr.len
      obtain ⟨b, off, rfl, _, hc⟩ := hr.at_ (j := 0) (by omega)
      simp at hc
      go_enter Tryz.func143, Tryz.ntmps143
      go_wp2
      go_ret
      exact ⟨rfl, 0, rfl⟩
    · rw [digits_two (by omega) hm] at hr
      obtain rfl : 2 = n := hr.len
      obtain ⟨b, off, rfl, _, hc0⟩ := hr.at_ (j := 0) (by omega)
      obtain ⟨b', off', e, _, hc1⟩ := hr.at_ (j := 1) (by omega)
      injection e with e
      injection e with e1 e2
      subst e1 e2
      have HM : Hid (m = m % 4294967296 + 4294967296 * (m / 4294967296)) := by unfold Hid; omega
      have l0 : m % 4294967296 < 4294967296 := by omega
      have l1 : m / 4294967296 < 4294967296 := by omega
      have c0 : w.cell? ⟨b, off, none⟩ = some (.int .u32 ((m % 4294967296 : Nat) : Int)) := hc0
      have c1 : w.cell? ⟨b, off + 1, none⟩ = some (.int .u32 ((m / 4294967296 : Nat) : Int)) := hc1
      clear hc0 hc1 hr h0 h1 hm
      have hj := u64_join _ _ l0 l1
      have hjj := Lib.hid HM.out.symm
      rw [show m % 4294967296 + 4294967296 * (m / 4294967296) = m from hjj.out] at hj
      clear hjj HM
      generalize m % 4294967296 = a0 at *
      generalize m / 4294967296 = a1 at *
      go_enter Tryz.func143, Tryz.ntmps143
      go_wp2
      go_quiet (fail)
      go_wp2
      go_ret
      exact ⟨rfl, _, rfl⟩

/-- -1, 0 or 1 -/
def cmp3 (a b : Nat) : Int := if a < b then -1 else if a = b then 0 else 1
theorem cmp3_len {a b : Nat} (h : (digits a).length < (digits b).length) : a < b := by
  rcases Nat.lt_or_ge a b with h1 | h1
  · exact h1
  · have := digits_len_mono h1; omega
/-- digits from k on agree: the first difference decides -/
theorem val_cmp_top {xs ys : List Nat} (hx : W32 xs) (hy : W32 ys) (hl : xs.length = ys.length) (k : Nat) (hk : k < xs.length) (he : xs.drop (k + 1) = ys.drop (k + 1)) (hlt : xs.getD k 0 < ys.getD k 0) : val xs < val ys := by
  have e1 : xs = xs.take k ++ (xs.getD k 0 :: xs.drop (k + 1)) := by
    have h := List.take_append_drop k xs
    rw [List.drop_eq_getElem_cons hk] at h
    rw [List.getD_eq_getElem?_getD, List.getElem?_eq_getElem hk]
    exact h.symm
  have e2 : ys = ys.take k ++ (ys.getD k 0 :: ys.drop (k + 1)) := by
    have hk' : k < ys.length := by omega
    have h := List.take_append_drop k ys
    rw [List.drop_eq_getElem_cons hk'] at h
    rw [List.getD_eq_getElem?_getD, List.getElem?_eq_getElem hk']
    exact h.symm
  have l1 := val_lt (hx.take k)
  have l2 := val_lt (hy.take k)
  have hl1 : (xs.take k).length = k := by rw [List.length_take]; omega
  have hl2 : (ys.take k).length = k := by rw [List.length_take]; omega
  rw [hl1] at l1
  rw [hl2] at l2
  rw [e1, e2, val_append, val_append, hl1, hl2, val_cons, val_cons, he]
  generalize 4294967296 ^ k = P at *
  generalize val (ys.drop (k + 1)) = v at *
  generalize xs.getD k 0 = x at *
  generalize ys.getD k 0 = y at *
  have h3 : P * (x + 4294967296 * v) + P ≤ P * (y + 4294967296 * v) := by
    rw [← Nat.mul_succ]
    exact Nat.mul_le_mul_left _ (by omega)
  omega

set_option maxRecDepth 100000 in
theorem compareMag_any {A A' : Option Addr} {n n' c c' B B' a b : Nat} (w : World) (hr : Rd .u32 w B A n (digits a)) (hr' : Rd .u32 w B' A' n' (digits b)) (hn : n ≤ 9223372036854775807) (hn' : n' ≤ 9223372036854775807) :
    Calls Tryz.prog 91 #[.slice A n c, .slice A' n' c'] w (RetQ w (.int .i64 (cmp3 a b))) := by
  have hl := hr.len
  have hl' := hr'.len
  have hwx := digits_w32 a
  have hwy := digits_w32 b
  by_cases hne : n = n'
  · have hne' : ((n : Int) != (n' : Int)) = false := by simp [hne]
    have HV : Hid (val (digits a) = a) := val_digits a
    have HV' : Hid (val (digits b) = b) := val_digits b
    have HT := Lib.hid (val_cmp_top hwx hwy (by omega))
    have HT' := Lib.hid (val_cmp_top hwy hwx (by omega))
    subst hne
    generalize digits a = xs at *
    generalize digits b = ys at *
    have HL := Lib.hid hl
    have HL' := Lib.hid hl'
    have HX := Lib.hid hwx
    have HY := Lib.hid hwy
    clear hl hl' hwx hwy
    go_enter Tryz.func91, Tryz.ntmps91
    go_wp2
    go_loopw [5] (fun i wr => ∃ k : Nat, k ≤ n ∧ i = .int .i64 ((k : Int) - 1) ∧ Hid (xs.drop k = ys.drop k) ∧ ∃ q, Hid (wr = w.drewN q)) (fun i _ => (intOf i + 1).toNat)
    case atStart => exact ⟨n, Nat.le_refl _, rfl, by unfold Hid; rw [List.drop_of_length_le (by rw [HL.out]; omega), List.drop_of_length_le (by rw [HL'.out]; omega)], 0, rfl⟩
    case round =>
      obtain ⟨k, hk, rfl, HE, q, hw⟩ := hrel
      have hw' := hw.out
      subst hw'
      clear hw
      by_cases h0 : 0 < k
      · obtain ⟨k, rfl⟩ : ∃ j, k = j + 1 := ⟨k - 1, by omega⟩
        obtain ⟨b1, o1, rfl, _, hc1⟩ := hr.at_ (j := k) (by omega)
        obtain ⟨b2, o2, rfl, _, hc2⟩ := hr'.at_ (j := k) (by omega)
        have hk1 : k < n := by omega
        have hkk : ((k + 1 : Nat) : Int) - 1 = (k : Int) := by omega
        rw [hkk]
        have HT1 := Lib.hid (HT.out k (by rw [HL.out]; omega) HE.out)
        have HT2 := Lib.hid (HT'.out k (by rw [HL'.out]; omega) HE.out.symm)
        have HXY : Hid (xs.getD k 0 = ys.getD k 0 → xs.drop k = ys.drop k) := by
          intro e
          rw [drop_getD xs k (by rw [HL.out]; omega), drop_getD ys k (by rw [HL'.out]; omega), HE.out, e]
        generalize xs.getD k 0 = x at *
        generalize ys.getD k 0 = y at *
        have i1 : (0 : Int) ≤ (k : Int) := by omega
        have i2 : (k : Int) < (n : Int) := by omega
        by_cases e : x = y
        · have eb : ((x : Int) != (y : Int)) = false := by simp [e]
          have HE2 := Lib.hid (HXY.out e)
          clear e hkk
          go_wp2
          go_quiet (fail)
          go_wp2
          go_roundw
          case rel => exact ⟨k, by omega, rfl, HE2, _, rfl⟩
          case measure => simp [intOf] <;> omega
        · have eb : ((x : Int) != (y : Int)) = true := by simp; omega
          by_cases hlt : x < y
          · have fin : cmp3 a b = -1 := by unfold cmp3; rw [if_pos (by have := HT1.out hlt; rw [HV.out, HV'.out] at this; exact this)]
            have HF := Lib.hid fin
            have hlt' : decide ((x : Int) < (y : Int)) = true := by simp; omega
            clear fin hkk
            go_wp2
            go_quiet (fail)
            go_wp2
            go_quiet (fail)
            go_wp2
            go_ret
            exact retQ3 (by rw [HF.out]; rfl)
          · have fin : cmp3 a b = 1 := by
              have := HT2.out (by omega)
              rw [HV.out, HV'.out] at this
              unfold cmp3; rw [if_neg (by omega), if_neg (by omega)]
            have HF := Lib.hid fin
            have hlt' : decide ((x : Int) < (y : Int)) = false := by simp; omega
            clear fin hkk
            go_wp2
            go_quiet (fail)
            go_wp2
            go_quiet (fail)
            go_wp2
            go_ret
            exact retQ3 (by rw [HF.out]; rfl)
      · obtain rfl : k = 0 := by omega
        have fin : cmp3 a b = 0 := by
          have h := HE.out
          rw [List.drop_zero, List.drop_zero] at h
          have : a = b := by rw [← HV.out, ← HV'.out, h]
          unfold cmp3; rw [if_neg (by omega), if_pos this]
        have HF := Lib.hid fin
        clear fin
        go_wp2
        go_ret
        exact ⟨by rw [HF.out]; rfl, _, rfl⟩
  · have hne' : ((n : Int) != (n' : Int)) = true := by simp; omega
    by_cases hlt : n < n'
    · have fin : cmp3 a b = -1 := by unfold cmp3; rw [if_pos (cmp3_len (by omega))]
      have HF := Lib.hid fin
      clear fin
      go_enter Tryz.func91, Tryz.ntmps91
      go_wp2
      go_ret
      exact ⟨by rw [HF.out]; rfl, 0, rfl⟩
    · have fin : cmp3 a b = 1 := by
        have := cmp3_len (a := b) (b := a) (by omega)
        unfold cmp3; rw [if_neg (by omega), if_neg (by omega)]
      have HF := Lib.hid fin
      clear fin
      go_enter Tryz.func91, Tryz.ntmps91
      go_wp2
      go_ret
      exact ⟨by rw [HF.out]; rfl, 0, rfl⟩
end Go.Proofs.YtociocengfjioaaGreatDoor
