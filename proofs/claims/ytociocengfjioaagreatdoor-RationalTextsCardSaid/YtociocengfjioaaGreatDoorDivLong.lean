/- Walk of divLong. -/
import Derived.Test.YtociocengfjioaaGreatDoorDivStep
import Derived.Test.YtociocengfjioaaGreatDoorBitsLen
import Derived.Deep.RegionHeld3
namespace Go.Proofs.YtociocengfjioaaGreatDoor
open Go.RowKit
set_option linter.unusedVariables false

theorem val_take_small {l : List Nat} (hl : W32 l) {k : Nat} (hk : k ≤ l.length) (h : val l < 4294967296 ^ k) : val (l.take k) = val l ∧ val (l.drop k) = 0 := by
  have e : val l = val (l.take k) + 4294967296 ^ k * val (l.drop k) := by
    conv => lhs; rw [← List.take_append_drop k l]
    rw [val_append, List.length_take, Nat.min_eq_left hk]
  have h0 : val (l.drop k) = 0 := by
    rcases Nat.eq_zero_or_pos (val (l.drop k)) with h1 | h1
    · exact h1
    · exfalso
      have := Nat.mul_le_mul_left (4294967296 ^ k) h1
      omega
  rw [h0, Nat.mul_zero] at e
  exact ⟨by omega, h0⟩
theorem val_split (l : List Nat) (k : Nat) (hk : k ≤ l.length) : val l = val (l.take k) + 4294967296 ^ k * val (l.drop k) := by
  conv => lhs; rw [← List.take_append_drop k l]
  rw [val_append, List.length_take, Nat.min_eq_left hk]
/-- the top digit -/
theorem val_top {l : List Nat} (hl : W32 l) {k : Nat} (hk : l.length = k + 1) {c : Nat} (h : c * 4294967296 ^ k ≤ val l) : c ≤ l.getD k 0 := by
  have e := val_take_succ l k
  rw [List.take_of_length_le (by omega)] at e
  have hlt := val_lt (hl.take k)
  rw [List.length_take, Nat.min_eq_left (by omega)] at hlt
  generalize 4294967296 ^ k = P at *
  rw [e] at h
  have h2 : c * P < (l.getD k 0 + 1) * P := by rw [Nat.succ_mul, Nat.mul_comm (l.getD k 0)]; omega
  have := Nat.lt_of_mul_lt_mul_right h2
  omega
theorem long_lt {us : List Nat} {j n V : Nat} (hus : W32 us) (hj : j + n + 1 ≤ us.length) (hVn : V < 4294967296 ^ n) (hhi : val (us.drop (j + 1)) < V) : val ((us.drop j).take (n + 1)) < V * 4294967296 := by
  have hd := drop_getD us j (by omega)
  have hx := hus.getD j
  have hvd : val (us.drop j) = us.getD j 0 + 4294967296 * val (us.drop (j + 1)) := by rw [hd, val_cons]
  have hlt : val (us.drop j) < V * 4294967296 := by omega
  have hlt2 : val (us.drop j) < 4294967296 ^ (n + 1) := by
    rw [Nat.pow_succ]
    exact Nat.lt_of_lt_of_le hlt (Nat.mul_le_mul_right _ (Nat.le_of_lt hVn))
  rw [(val_take_small (hus.drop j) (k := n + 1) (by rw [List.length_drop]; omega) hlt2).1]
  exact hlt
/-- one round of the long division -/
theorem long_step {us rs : List Nat} {j n V U Qh : Nat} (hus : W32 us) (hj : j + n + 1 ≤ us.length) (hVn : V < 4294967296 ^ n) (hinv : U = val us + V * (4294967296 ^ (j + 1) * Qh)) (hhi : val (us.drop (j + 1)) < V) (hrl : rs.length = n + 1) (hrv : val rs = val ((us.drop j).take (n + 1)) % V) :
    val ((us.drop j).take (n + 1)) < V * 4294967296 ∧
    (U = val (us.take j ++ rs ++ us.drop (j + (n + 1))) + V * (4294967296 ^ j * (val ((us.drop j).take (n + 1)) / V + 4294967296 * Qh))) ∧ val ((us.take j ++ rs ++ us.drop (j + (n + 1))).drop j) < V := by
  have hV0 : 0 < V := by omega
  have hd := drop_getD us j (by omega)
  have hx := hus.getD j
  have hvd : val (us.drop j) = us.getD j 0 + 4294967296 * val (us.drop (j + 1)) := by rw [hd, val_cons]
  have hlt : val (us.drop j) < V * 4294967296 := by omega
  have hpn : 4294967296 ^ (n + 1) = 4294967296 ^ n * 4294967296 := Nat.pow_succ ..
  have hlt2 : val (us.drop j) < 4294967296 ^ (n + 1) := by
    rw [hpn]
    exact Nat.lt_of_lt_of_le hlt (Nat.mul_le_mul_right _ (Nat.le_of_lt hVn))
  obtain ⟨hw, hz⟩ := val_take_small (hus.drop j) (k := n + 1) (by rw [List.length_drop]; omega) hlt2
  rw [List.drop_drop] at hz
  have hsp := val_split us j (by omega)
  have hlj : (us.take j).length = j := by rw [List.length_take]; omega
  have hnew : val (us.take j ++ rs ++ us.drop (j + (n + 1))) = val (us.take j) + 4294967296 ^ j * val rs := by
    rw [List.append_assoc, val_append, hlj, val_append, hz, Nat.mul_zero, Nat.add_zero]
  have hnd : (us.take j ++ rs ++ us.drop (j + (n + 1))).drop j = rs ++ us.drop (j + (n + 1)) := by
    rw [List.append_assoc, List.drop_append, List.drop_of_length_le (by omega), hlj, Nat.sub_self, List.drop_zero, List.nil_append]
  refine ⟨by rw [hw]; exact hlt, ?_, ?_⟩
  · rw [hnew, hrv, hw, hinv, hsp]
    have hdm := Nat.div_add_mod (val (us.drop j)) V
    generalize val (us.drop j) = D at *
    generalize D / V = q at *
    generalize D % V = r at *
    rw [← hdm, Nat.pow_succ]
    generalize 4294967296 ^ j = P
    have e1 : P * (V * q + r) = P * (V * q) + P * r := Nat.mul_add ..
    have e2 : V * (P * (q + 4294967296 * Qh)) = P * (V * q) + V * (P * 4294967296 * Qh) := by
      rw [Nat.mul_add, Nat.mul_add, ← Nat.mul_assoc V P q, Nat.mul_comm V P, Nat.mul_assoc P V q, Nat.mul_assoc P 4294967296 Qh]
    rw [e1, e2]
    omega
  · rw [hnd, val_append, hz, Nat.mul_zero, Nat.add_zero, hrv]
    exact Nat.mod_lt _ hV0

def RetTwo (w : World) (q r : Nat) (e : Ending) (w' : World) : Prop :=
  ∃ A n c A' n' c', e = .returned (.tuple #[.slice A n c, .slice A' n' c']) ∧ Rd .u32 w' w'.heap.size A n (digits q) ∧ Rd .u32 w' w'.heap.size A' n' (digits r) ∧ n ≤ c ∧ c ≤ 9223372036854775807 ∧ n' ≤ c' ∧ c' ≤ 9223372036854775807 ∧ Below w.heap.size w w'

theorem norm_facts {b n : Nat} (hln : (digits b).length = n) (hn : 1 ≤ n) : (digits b).getD (n - 1) 0 ≠ 0 ∧ (digits b).getD (n - 1) 0 < 4294967296 ∧ 32 - blen ((digits b).getD (n - 1) 0) < 32 ∧
    b * 2 ^ (32 - blen ((digits b).getD (n - 1) 0)) < 4294967296 ^ n ∧ 2147483648 * 4294967296 ^ (n - 1) ≤ b * 2 ^ (32 - blen ((digits b).getD (n - 1) 0)) := by
  have hyl : (digits b).getD (n - 1) 0 < 4294967296 := (digits_w32 b).getD _
  have hy0 : (digits b).getD (n - 1) 0 ≠ 0 := by
    rcases digits_last b with h | h
    · rw [h] at hln; simp at hln; omega
    · intro h0
      apply h
      rw [List.getLast?_eq_getElem?, hln]
      rw [List.getD_eq_getElem?_getD, List.getElem?_eq_getElem (by omega)] at h0
      rw [List.getElem?_eq_getElem (by omega)]
      simpa using h0
  have hbt : b = val ((digits b).take (n - 1)) + 4294967296 ^ (n - 1) * (digits b).getD (n - 1) 0 := by
    have e := val_take_succ (digits b) (n - 1)
    rwa [show n - 1 + 1 = n by omega, List.take_of_length_le (by omega), val_digits] at e
  have hbl : val ((digits b).take (n - 1)) < 4294967296 ^ (n - 1) := by
    have := val_lt ((digits_w32 b).take (n - 1))
    rwa [List.length_take, Nat.min_eq_left (by omega)] at this
  obtain ⟨h1, h2, h3⟩ := norm_shift hy0 hyl
  refine ⟨hy0, hyl, h1, ?_, ?_⟩
  all_goals
    generalize (digits b).getD (n - 1) 0 = y at *
    generalize 2 ^ (32 - blen y) = S at *
    generalize val ((digits b).take (n - 1)) = l at *
  · have e : 4294967296 ^ n = 4294967296 ^ (n - 1) * 4294967296 := by rw [← Nat.pow_succ]; congr 1; omega
    rw [e]
    generalize 4294967296 ^ (n - 1) = P at *
    have hS0 : 0 < S := by
      rcases Nat.eq_zero_or_pos S with h | h
      · rw [h] at h2; omega
      · exact h
    have h4 : b < P * (y + 1) := by rw [Nat.mul_succ]; omega
    have h5 : b * S < P * (y + 1) * S := Nat.mul_lt_mul_of_pos_right h4 hS0
    rw [Nat.mul_assoc] at h5
    exact Nat.lt_of_lt_of_le h5 (Nat.mul_le_mul_left _ h3)
  · generalize 4294967296 ^ (n - 1) = P at *
    have h4 : P * y ≤ b := by omega
    have h5 := Nat.mul_le_mul_right S h4
    rw [Nat.mul_assoc] at h5
    have h6 := Nat.mul_le_mul_left P h2
    rw [Nat.mul_comm 2147483648 P]
    exact Nat.le_trans h6 h5

theorem Mut.rdB {k : IntKind} {e : TypeId} {w : World} {g B : Nat} {xs : List Nat} (h : Mut k e w g xs) (hg : g < B) : Rd k w B (some ⟨g, 0, none⟩) xs.length xs :=
  ⟨rfl, fun _ => ⟨g, 0, rfl, hg, fun j x hx => by rw [Nat.zero_add]; exact h.cell' j x hx⟩⟩
/-- the end of the long division -/
theorem long_end {a b S Q r : Nat} (hS : 0 < S) (hb : 0 < b) (h : a * S = r + b * S * Q) (hr : r < b * S) : Q = a / b ∧ r / S = a % b := by
  have h1 : a * S / (b * S) = Q := by
    rw [h, Nat.add_mul_div_left _ _ (Nat.mul_pos hb hS), Nat.div_eq_of_lt hr, Nat.zero_add]
  rw [Nat.mul_div_mul_right _ _ hS] at h1
  refine ⟨h1.symm, ?_⟩
  have h2 := Nat.div_add_mod a b
  rw [h1] at h2
  have h3 : r = a % b * S := by
    have : a * S = (b * Q + a % b) * S := by rw [h2]
    rw [Nat.add_mul] at this
    have e : b * S * Q = b * Q * S := by rw [Nat.mul_assoc, Nat.mul_comm S Q, ← Nat.mul_assoc]
    rw [e] at h
    omega
  rw [h3, Nat.mul_div_cancel _ hS]

set_option maxHeartbeats 2000000 in
set_option maxRecDepth 100000 in
theorem divLong_any {A A' : Option Addr} {m n c c' a b : Nat} (w : World) (hr : Rd .u32 w w.heap.size A m (digits a)) (hr' : Rd .u32 w w.heap.size A' n (digits b)) (hm : m ≤ 549755813888) (hn : 2 ≤ n) (hab : b ≤ a) :
    Calls Tryz.prog 144 #[.slice A m c, .slice A' n c'] w (RetTwo w (a / b) (a % b)) := by
  have hlm := hr.len
  have hln := hr'.len
  have hnm : n ≤ m := by rw [← hlm, ← hln]; exact digits_len_mono hab
  have hb0 : 0 < b := by
    rcases Nat.eq_zero_or_pos b with h | h
    · rw [h, digits_zero] at hln; simp at hln; omega
    · exact h
  obtain ⟨hy0, hyl, hs32, hVlt, hVge⟩ := norm_facts hln (by omega)
  obtain ⟨by_, oy, rfl, hby, hcy⟩ := hr'.at_ (j := n - 1) (by omega)
  have halt := digits_lt a
  rw [hlm] at halt
  have hbge : 4294967296 ^ (n - 1) ≤ b := by
    have := digits_ge (n := b) (by omega)
    rwa [hln] at this
  generalize (digits b).getD (n - 1) 0 = y at *
  have hlz := leadingZeros32_any y w hyl
  have hsl := fun W (r : Rd .u32 W W.heap.size (some ⟨by_, oy, none⟩) n (digits b)) => shiftLeft_any (c := c') (s := 32 - blen y) W r (digits_w32 b) (by omega) hs32
  have hsx := fun W (r : Rd .u32 W W.heap.size A m (digits a)) => shiftLeft_any (c := c) (s := 32 - blen y) W r (digits_w32 a) (by omega) hs32
  have hsr := fun W A0 us c0 (r : Rd .u32 W W.heap.size A0 n us) (hu : W32 us) => shiftRight_any (c := c0) (s := 32 - blen y) W r hu (by omega) hs32
  simp only [val_digits] at hsl hsx
  generalize 32 - blen y = s at *
  have hS0 : 0 < 2 ^ s := Nat.two_pow_pos s
  have HLZ := Lib.hid hlz
  have HSL := Lib.hid hsl
  have HSX := Lib.hid hsx
  have HSR := Lib.hid hsr
  have HVLT := Lib.hid hVlt
  have HVGE := Lib.hid hVge
  have HAL := Lib.hid halt
  have HBG := Lib.hid hbge
  clear hlz hsl hsx hsr hVlt hVge halt hbge hlm hln hy0
  go_enter Tryz.func144, Tryz.ntmps144
  go_wp2_with fail
  refine HLZ.out.mono ?_
  rintro e w1 ⟨rfl, rfl⟩
  go_wp2_with fail
  refine (HSL.out _ hr').mono ?_
  rintro e w1 ⟨gv, vz, rfl, Bv, hvl, hvw, hvv, hgv, b1⟩
  go_wp2_with fail
  refine (HSX.out _ (hr.call b1)).mono ?_
  rintro e w2 ⟨gu, uz, rfl, Bu, hul, huw, huv, hgu, b2⟩
  have lgv := Bv.lt
  have hgvu : gv < gu := by omega
  have mv := Bv.mut.call b2
  have mu := Bu.mut
  have hb12 := b1.trans (b2.mono b1.size)
  go_wp2_with (at_make; refine wpList_make_lst (kx := .i64) (ky := .i64) (n := m - n + 1) (c := m - n + 1) Tryz.elemU32 Tryz.underlying22 rfl rfl (congrArg (Value.int .i64) (by omega)) (congrArg (Value.int .i64) (by omega)) (Nat.le_refl _) (by omega) (by omega) ?_)
  intro w3 B3 b3 l3
  have mu3 := mu.call b3
  have mv3 := mv.call b3
  have mq := B3.mut
  have hb3 := hb12.trans (b3.mono hb12.size)
  have hguq : gu < w2.heap.size := Bu.lt
  -- the divisor, shifted
  obtain ⟨hvt, _⟩ := val_take_small hvw (k := n) (by omega) (by rw [hvv]; exact HVLT.out)
  rw [hvv] at hvt
  have hvtl : (vz.take n).length = n := by rw [List.length_take]; omega
  have hrv3 := (mv3.take n).rdB hgvu
  rw [hvtl] at hrv3
  have hvtw := hvw.take n
  have hnrm : 2147483648 ≤ (vz.take n).getD (n - 1) 0 := val_top hvtw (k := n - 1) (by rw [hvtl]; omega) (by rw [hvt]; exact HVGE.out)
  have hhi0 : val (uz.drop (m - n + 1)) < b * 2 ^ s := by
    have e := val_split uz (m - n + 1) (by omega)
    rw [huv] at e
    have h1 : a * 2 ^ s < 4294967296 ^ m * 2 ^ s := Nat.mul_lt_mul_of_pos_right HAL.out hS0
    have h2 : 4294967296 ^ m = 4294967296 ^ (m - n + 1) * 4294967296 ^ (n - 1) := by rw [← Nat.pow_add]; congr 1; omega
    rw [h2, Nat.mul_assoc] at h1
    have h3 : 4294967296 ^ (m - n + 1) * val (uz.drop (m - n + 1)) < 4294967296 ^ (m - n + 1) * (4294967296 ^ (n - 1) * 2 ^ s) := by omega
    exact Nat.lt_of_lt_of_le (Nat.lt_of_mul_lt_mul_left h3) (Nat.mul_le_mul_right _ HBG.out)
  generalize hvs : vz.take n = vs at *
  have HVV := Lib.hid hvt
  have HVW := Lib.hid hvtw
  have HHI := Lib.hid hhi0
  have HUV := Lib.hid huv
  have HUL := Lib.hid hul
  have HUW := Lib.hid huw
  have HNR := Lib.hid hnrm
  have HVL2 := Lib.hid hvtl
  clear hvs hvt hvtw hvtl hvl hvv hvw hhi0 huv hul huw hnrm mv mv3 mu Bu Bv B3 b1 b2 b3 hb12 HSL HSX HLZ hr hr' hcy
  generalize hgq : w2.heap.size = gq at *
  clear hgq
  go_wp2
  go_loopw [10] (fun i wr => ∃ (k : Nat) (us qs : List Nat), k ≤ m - n + 1 ∧ i = .int .i64 ((k : Int) - 1) ∧ Hid (us.length = m + 1) ∧ Hid (W32 us) ∧ Hid (qs.length = m - n + 1) ∧ Hid (W32 qs) ∧ Hid (a * 2 ^ s = val us + b * 2 ^ s * (4294967296 ^ k * val (qs.drop k))) ∧ Hid (val (us.drop k) < b * 2 ^ s) ∧ Mut .u32 86 wr gu us ∧ Mut .u32 86 wr gq qs ∧ Rd .u32 wr gu (some ⟨gv, 0, none⟩) n vs ∧ Below w.heap.size w wr) (fun i _ => (intOf i + 1).toNat)
  case atStart =>
    refine ⟨m - n + 1, uz, List.replicate (m - n + 1) 0, Nat.le_refl _, congrArg _ (by omega), HUL, HUW, by simp [Hid], W32.rep _, ?_, HHI, mu3, mq, hrv3, hb3⟩
    unfold Hid
    rw [HUV.out, List.drop_of_length_le (by simp), val_nil, Nat.mul_zero, Nat.mul_zero, Nat.add_zero]
  case round =>
    obtain ⟨k, us, qs, hk, rfl, husl, husw, hqsl, hqsw, HI, HH, mU, mQ, rV, hbw⟩ := hrel
    clear mu3 mq hrv3 hb3 HUV HUL HUW HHI
    by_cases h0 : 0 < k
    · obtain ⟨k, rfl⟩ : ∃ j, k = j + 1 := ⟨k - 1, by omega⟩
      have hkk : ((k + 1 : Nat) : Int) - 1 = (k : Int) := by omega
      rw [hkk]
      clear hkk
      have hkm : k + n + 1 ≤ m + 1 := by omega
      have hsplit : us = us.take k ++ (us.drop k).take (n + 1) ++ us.drop (k + (n + 1)) := by
        rw [List.append_assoc, ← List.drop_drop, List.take_append_drop, List.take_append_drop]
      have mU2 := mU
      rw [hsplit] at mU2
      have hpre : (us.take k).length = k := by rw [List.length_take, husl.out]; omega
      have hwin : ((us.drop k).take (n + 1)).length = n + 1 := by rw [List.length_take, List.length_drop, husl.out]; omega
      have hlt := long_lt husw.out (by rw [husl.out]; omega) HVLT.out HH.out
      have hds := divStep_any (c := m + 1 - k) (c' := n + 1) wr mU2 hpre hwin rV ((husw.out.drop k).take (n + 1)) HVW.out hn (by omega) HNR.out (by rw [HVV.out]; exact hlt)
      rw [HVV.out] at hds
      have HDS := Lib.hid hds
      clear hds mU2 hsplit
      have hne : ¬ m + 1 = k := by omega
      have hcq := mQ.cell (i := k) (by rw [hqsl.out]; omega)
      have hfq := mQ.frozen k
      have hqd : val ((us.drop k).take (n + 1)) / (b * 2 ^ s) < 4294967296 := Nat.div_lt_of_lt_mul hlt
      have lgq := mQ.lt
      go_wp2_with fail
      rw [show k + n + 1 - k = n + 1 by omega]
      refine HDS.out.mono ?_
      rintro e w5 ⟨rs, rfl, hrl, hrw, hrv, mU5, hgr5, hsz5⟩
      obtain ⟨_, hI5, hH5⟩ := long_step husw.out (by rw [husl.out]; omega) HVLT.out HI.out HH.out hrl hrv
      have mQ5 := mQ.grown hgr5 (by omega)
      have rV5 := rV.grown hgr5 (Nat.le_of_lt mU.lt) (fun g hg => by injection hg with hg; omega)
      have hb5 := below_grown hbw hgr5 hbw.size (by omega)
      have hcq5 := mQ5.cell (i := k) (by rw [hqsl.out]; omega)
      have hfq5 := mQ5.frozen k
      have HI5 := Lib.hid hI5
      have HH5 := Lib.hid hH5
      have HSZ5 := Lib.hid hsz5
      have HRL := Lib.hid hrl
      have HRW := Lib.hid hrw
      clear hI5 hH5 hsz5 HDS mU mQ rV hcq hfq hrv hbw HI HH hrl hrw
      have HQS : Hid (∀ d, val ((qs.set k d).drop k) = d + 4294967296 * val (qs.drop (k + 1))) := fun d => by
        rw [drop_getD (qs.set k d) k (by rw [List.length_set, hqsl.out]; omega), val_cons, List.drop_set_of_lt (by omega)]
        congr 1
        rw [List.getD_eq_getElem?_getD, List.getElem?_set_self (by rw [hqsl.out]; omega)]; rfl
      generalize val ((us.drop k).take (n + 1)) / (b * 2 ^ s) = qd at *
      generalize qs.getD k 0 = old at *
      go_wp2
      go_roundw
      case rel =>
        refine ⟨k, us.take k ++ rs ++ us.drop (k + (n + 1)), qs.set k qd, by omega, rfl, ?_, ?_, ?_, hqsw.out.set _ hqd, ?_, HH5, mU5.far (by show gu ≠ gq; omega) _, mQ5.setZ k rfl, rV5.setCell (by show gu ≤ gq; omega) _, hb5.setCell (by show w.heap.size ≤ gq; omega) _⟩
        · unfold Hid; rw [List.length_append, List.length_append, hpre, HRL.out, List.length_drop, husl.out]; omega
        · exact ((husw.out.take k).append HRW.out).append (husw.out.drop _)
        · unfold Hid; rw [List.length_set]; exact hqsl.out
        · unfold Hid; rw [HQS.out]; exact HI5.out
      case measure => simp [intOf] <;> omega
    · obtain rfl : k = 0 := by omega
      have hI := HI.out
      have hH := HH.out
      rw [List.drop_zero] at hI hH
      rw [Nat.pow_zero, Nat.one_mul] at hI
      obtain ⟨hQ, hR⟩ := long_end hS0 hb0 hI hH
      obtain ⟨ht1, _⟩ := val_take_small husw.out (k := n) (by rw [husl.out]; omega) (Nat.lt_trans hH HVLT.out)
      have hrq := mQ.rd
      rw [hqsl.out] at hrq
      have htr := fun W (h : Rd .u32 W W.heap.size (some ⟨gq, 0, none⟩) (m - n + 1) qs) => trim_any (c := m - n + 1) W h hqsw.out (Nat.le_refl _) (by omega)
      have hru := (mU.take n).rd
      have htl : (us.take n).length = n := by rw [List.length_take, husl.out]; omega
      rw [htl] at hru
      have hsr2 := fun W (h : Rd .u32 W W.heap.size (some ⟨gu, 0, none⟩) n (us.take n)) => HSR.out W _ _ (m + 1) h (husw.out.take n)
      rw [ht1, hR] at hsr2
      have HTR := Lib.hid htr
      have HS2 := Lib.hid hsr2
      have HQQ := Lib.hid hQ
      have HQL := Lib.hid hqsl.out
      clear htr hsr2 hI hH hQ hR ht1 htl
      go_wp2
      have q1 : (0 : Int) ≤ (n : Int) := by omega
      have q2 : (n : Int) ≤ (m : Int) + 1 := by omega
      go_region_held3 (fun _ => True) (trivial)
        ((first | (go_at_call 89; refine (HTR.out wr.drew hrq.drew).mono ?_; rintro e w8 ⟨mm, hmm, htt, rfl, rfl⟩) | (go_at_call 162; refine (HS2.out wr.drew hru.drew).mono ?_; rintro e w9 ⟨A9, n9, c9, rfl, r9, h9, h9', hb9⟩)))
      go_wp2
      go_ret2
      have rq := (hrq.drew.take (j := mm) (by rw [← HQL.out]; exact hmm)).call hb9
      rw [htt, HQQ.out] at rq
      exact ⟨_, mm, mm, A9, n9, c9, rfl, rq, r9, Nat.le_refl _, by have := HQL.out; omega, h9, h9', (hbw.drew).trans (hb9.mono hbw.size)⟩
end Go.Proofs.YtociocengfjioaaGreatDoor
