/- Walks of shiftLeft, shiftRight, Len32, LeadingZeros32. -/
import Derived.Test.YtociocengfjioaaGreatDoorIntD
namespace Go.Proofs.YtociocengfjioaaGreatDoor
open Go.RowKit
set_option linter.unusedVariables false

/-- a new block, whole, and a slice of all of it -/
def RetBlk (e32 : TypeId) (w : World) (N V : Nat) (e : Ending) (w' : World) : Prop :=
  ∃ g zs, e = .returned (.slice (some ⟨g, 0, none⟩) N N) ∧ Buf .u32 e32 w' g zs ∧ zs.length = N ∧ W32 zs ∧ val zs = V ∧ w.heap.size ≤ g ∧ Below w.heap.size w w'

theorem shl_facts {d cr s : Nat} (hd : d < 4294967296) (hs : s < 32) (hcr : cr < 2 ^ s) : ∃ p t : Nat, IntKind.u64.wrap ((d : Int) * 2 ^ s) = (p : Int) ∧ bits .or .u64 (cr : Int) (p : Int) = (t : Int) ∧ t = cr + d * 2 ^ s ∧ t / 4294967296 < 2 ^ s ∧ t % 4294967296 < 4294967296 ∧ t ≤ 18446744073709551615 := by
  have hp : 2 ^ s ≤ 2 ^ 31 := Nat.pow_le_pow_right (by omega) (by omega)
  have hpos : 0 < 2 ^ s := Nat.two_pow_pos s
  have e : ((d * 2 ^ s : Nat) : Int) = (d : Int) * 2 ^ s := by simp
  have hj : cr ||| d * 2 ^ s = cr + d * 2 ^ s := by rw [Nat.or_comm, nat_join s _ cr (Nat.mul_mod_left _ _) hcr]; omega
  have hm : d * 2 ^ s ≤ 4294967295 * 2 ^ s := Nat.mul_le_mul_right _ (by omega)
  generalize hQ : 2 ^ s = Q at *
  refine ⟨d * Q, cr + d * Q, ?_, ?_, rfl, by omega, by omega, by omega⟩
  · rw [← e, IntKind.wrap_u64]; omega
  · rw [u64_or_nat cr (d * Q) (by omega) (by omega), hj]
theorem shl_step {P v cr a d s t : Nat} (h : v + P * cr = a * 2 ^ s) (ht : t = cr + d * 2 ^ s) : v + P * (t % 4294967296) + P * 4294967296 * (t / 4294967296) = (a + P * d) * 2 ^ s := by
  have e : P * (t % 4294967296) + P * 4294967296 * (t / 4294967296) = P * t := by rw [Nat.mul_assoc, ← Nat.mul_add, Nat.mod_add_div]
  rw [Nat.add_assoc, e, ht, Nat.mul_add, Nat.add_mul, ← h, Nat.mul_assoc]
  omega

set_option maxRecDepth 100000 in
theorem shiftLeft_any {A : Option Addr} {n c s : Nat} {xs : List Nat} (w : World) (hr : Rd .u32 w w.heap.size A n xs) (hx : W32 xs) (hn : n ≤ 1099511627776) (hs : s < 32) :
    Calls Tryz.prog 160 #[.slice A n c, .int .u64 s] w (RetBlk 86 w (n + 1) (val xs * 2 ^ s)) := by
  have HL := Lib.hid hr.len
  have HX := Lib.hid hx
  clear hx
  go_enter Tryz.func160, Tryz.ntmps160
  go_wp2_with (at_make; refine wpList_make_lst (kx := .i64) (ky := .i64) (n := n + 1) (c := n + 1) Tryz.elemU32 Tryz.underlying22 rfl rfl (congrArg (Value.int .i64) (by omega)) (congrArg (Value.int .i64) (by omega)) (Nat.le_refl _) (by omega) (by omega) ?_)
  intro w1 B1 b1 l1
  rw [← fill_nil] at B1
  generalize hg : w.heap.size = g at *
  have HG := Lib.hid hg
  clear hg
  have r1 := hr.below b1
  have hsz : g < w1.heap.size := l1
  clear hr l1
  go_wp2
  go_loopw [6, 7, 8, 15] (fun cv _ _ i wr => ∃ (k cr : Nat) (ds : List Nat), k ≤ n ∧ i = .int .i64 k ∧ cv = .int .u64 cr ∧ Hid (cr < 2 ^ s) ∧ Hid (ds.length = k) ∧ Hid (W32 ds) ∧ Hid (val ds + 4294967296 ^ k * cr = val (xs.take k) * 2 ^ s) ∧ Buf .u32 86 wr g (fill ds (n + 1)) ∧ Rd .u32 wr g A n xs ∧ Below g w wr) (fun _ _ _ i _ => n - (intOf i).toNat)
  case atStart => exact ⟨0, 0, [], by omega, rfl, rfl, Nat.two_pow_pos s, rfl, W32.nil, by simp [val, Hid], B1, r1, b1⟩
  case round =>
    obtain ⟨k, cr, ds, hk, rfl, rfl, hcr, hdl, hdw, HV, hB, q, hb⟩ := hrel
    clear B1 r1 b1
    by_cases hlt : k < n
    · obtain ⟨b1, o1, rfl, hb1, hc1⟩ := q.at_ hlt
      have hxl := HX.out.getD k
      have hc : wr.cell? ⟨g, k, none⟩ = some (.int .u32 (((fill ds (n + 1)).getD k 0 : Nat) : Int)) := hB.cell (by rw [fill_len (by rw [hdl.out]; omega)]; omega)
      have hf := hB.frozen k
      obtain ⟨p, t, e1, e2, et, htq, htm, htb⟩ := shl_facts hxl hs hcr.out
      have HVS := Lib.hid (shl_step HV.out et)
      rw [← val_take_succ, ← Nat.pow_succ] at HVS
      have HSET := Lib.hid (fun d => fill_set d (show k < n + 1 by omega) hdl.out)
      have HLEN : Hid (∀ d, (ds ++ [d]).length = k + 1) := fun d => by rw [List.length_append, hdl.out]; rfl
      have HVAL : Hid (∀ d, val (ds ++ [d]) = val ds + 4294967296 ^ k * d) := fun d => by rw [val_snoc, hdl.out]
      have HTQ := Lib.hid htq
      clear et htq
      generalize xs.getD k 0 = x at *
      generalize (fill ds (n + 1)).getD k 0 = old at *
      go_wp2
      go_roundw
      case rel =>
        refine ⟨k + 1, t / 4294967296, ds ++ [t % 4294967296], by omega, by go_num, by go_num, HTQ, HLEN.out _, hdw.out.append (W32.mk htm W32.nil), ?_, ?_, q.setCell (Nat.le_refl _) _, hb.setCell (Nat.le_refl _) _⟩
        · unfold Hid; rw [HVAL.out]; exact HVS.out
        · rw [← HSET.out]; exact hB.setZ k (by omega)
      case measure => simp [intOf] <;> omega
    · obtain rfl : k = n := by omega
      have hcrl : cr < 4294967296 := Nat.lt_of_lt_of_le hcr.out (Nat.pow_le_pow_right (n := 2) (by omega) (show s ≤ 32 by omega))
      have hc : wr.cell? ⟨g, k, none⟩ = some (.int .u32 (((fill ds (k + 1)).getD k 0 : Nat) : Int)) := hB.cell (by rw [fill_len (by rw [hdl.out]; omega)]; omega)
      have hf := hB.frozen k
      have hB2 := hB.set_ k cr
      rw [fill_set cr (by omega) hdl.out, fill_full (by rw [List.length_append, hdl.out]; rfl)] at hB2
      have hv : val (ds ++ [cr]) = val xs * 2 ^ s := by
        have h := HV.out
        rw [List.take_of_length_le (by rw [HL.out]; omega)] at h
        rw [val_snoc, hdl.out, h]
      have hw32 : W32 (ds ++ [cr]) := hdw.out.append (W32.mk hcrl W32.nil)
      have hlen : (ds ++ [cr]).length = k + 1 := by rw [List.length_append, hdl.out]; rfl
      have FIN : Hid (RetBlk 86 w (k + 1) (val xs * 2 ^ s) (.returned (.slice (some ⟨g, 0, none⟩) (k + 1) (k + 1))) (wr.setCell ⟨g, k, none⟩ (.int .u32 (cr : Int)))) :=
        ⟨g, _, rfl, hB2, hlen, hw32, hv, by rw [HG.out]; omega, by rw [HG.out]; exact hb.setCell (Nat.le_refl _) _⟩
      clear hB2 hv hw32 hlen
      go_wp2
      go_ret
      exact FIN.out

theorem shr_word {d h s : Nat} (hd : d < 4294967296) (hs : s < 32) : (d + 4294967296 * h) / 2 ^ s % 4294967296 = d / 2 ^ s + h % 2 ^ s * 2 ^ (32 - s) := by
  have e : (4294967296 : Nat) = 2 ^ s * 2 ^ (32 - s) := by rw [← Nat.pow_add, show s + (32 - s) = 32 by omega]
  have hP : 0 < 2 ^ s := Nat.two_pow_pos s
  have hR : 0 < 2 ^ (32 - s) := Nat.two_pow_pos _
  generalize 2 ^ s = P at *
  generalize 2 ^ (32 - s) = R at *
  have e1 : (d + 4294967296 * h) / P = d / P + R * h := by
    rw [e, Nat.mul_assoc, Nat.add_mul_div_left _ _ hP]
  rw [e1]
  have e2 : R * h = R * (h % P) + 4294967296 * (h / P) := by
    have := Nat.mod_add_div h P
    rw [e, Nat.mul_comm P R, Nat.mul_assoc, ← Nat.mul_add, this]
  rw [e2, ← Nat.add_assoc, Nat.add_mul_mod_self_left]
  have h3 : d / P < R := Nat.div_lt_of_lt_mul (by omega)
  have h4 : R * (h % P) ≤ R * (P - 1) := Nat.mul_le_mul_left _ (by have := Nat.mod_lt h hP; omega)
  have h5 : R * (P - 1) + R = R * P := by rw [← Nat.mul_succ]; congr 1; omega
  rw [Nat.mod_eq_of_lt (by rw [e, Nat.mul_comm P R]; omega), Nat.mul_comm (h % P)]

/-- the digits shifted to the right -/
def shrL (s : Nat) : List Nat → List Nat
  | [] => []
  | x :: xs => ((x + 4294967296 * xs.headD 0) / 2 ^ s % 4294967296) :: shrL s xs
theorem shrL_len (s : Nat) : ∀ xs, (shrL s xs).length = xs.length
  | [] => rfl
  | x :: xs => by rw [shrL, List.length_cons, List.length_cons, shrL_len s xs]
theorem shrL_w32 (s : Nat) : ∀ xs, W32 (shrL s xs)
  | [] => W32.nil
  | x :: xs => W32.mk (Nat.mod_lt _ (by omega)) (shrL_w32 s xs)
theorem headD_getD (xs : List Nat) : xs.headD 0 = xs.getD 0 0 := by cases xs <;> rfl
theorem shrL_get (s : Nat) : ∀ (xs : List Nat) (k : Nat), k < xs.length → (shrL s xs).getD k 0 = (xs.getD k 0 + 4294967296 * xs.getD (k + 1) 0) / 2 ^ s % 4294967296
  | [], _, h => by simp at h
  | x :: xs, 0, _ => by rw [shrL, headD_getD]; rfl
  | x :: xs, k + 1, h => by
    rw [shrL, List.getD_cons_succ, shrL_get s xs k (by simpa using h)]
    rfl
theorem val_headD : ∀ xs : List Nat, ∃ V, val xs = xs.headD 0 + 4294967296 * V
  | [] => ⟨0, rfl⟩
  | x :: xs => ⟨val xs, rfl⟩
theorem shrL_val (s : Nat) (hs : s < 32) : ∀ xs, W32 xs → val (shrL s xs) = val xs / 2 ^ s
  | [], _ => by simp [shrL, val]
  | x :: xs, h => by
    have hx := h.cons.1
    rw [shrL, val_cons, val_cons, shrL_val s hs xs h.cons.2, shr_word hx hs]
    obtain ⟨V, hV⟩ := val_headD xs
    have e : (4294967296 : Nat) = 2 ^ s * 2 ^ (32 - s) := by rw [← Nat.pow_add, show s + (32 - s) = 32 by omega]
    have hP : 0 < 2 ^ s := Nat.two_pow_pos s
    generalize 2 ^ s = P at *
    generalize 2 ^ (32 - s) = R at *
    have e1 : (x + 4294967296 * val xs) / P = x / P + R * val xs := by rw [e, Nat.mul_assoc, Nat.add_mul_div_left _ _ hP]
    have e2 : val xs % P = xs.headD 0 % P := by rw [hV, e, Nat.mul_assoc, Nat.add_mul_mod_self_left]
    have e3 : R * val xs = R * (val xs % P) + 4294967296 * (val xs / P) := by
      have := Nat.mod_add_div (val xs) P
      rw [e, Nat.mul_comm P R, Nat.mul_assoc, ← Nat.mul_add, this]
    rw [e1, e3, e2, Nat.mul_comm R]
    omega

theorem u64_join' (a b : Nat) (ha : a < 4294967296) (hb : b < 4294967296) : bits .or .u64 (a : Int) ((b : Int) * 4294967296) = ((a + 4294967296 * b : Nat) : Int) := by
  have h := u64_or_nat a (b * 4294967296) (by omega) (by omega)
  rw [Nat.or_comm, nat_join 32 (b * 4294967296) a (by omega) (by omega)] at h
  rw [show ((b : Int) * 4294967296) = ((b * 4294967296 : Nat) : Int) by omega, h]
  omega

set_option maxRecDepth 100000 in
theorem shiftRight_any {A : Option Addr} {n c s : Nat} {xs : List Nat} (w : World) (hr : Rd .u32 w w.heap.size A n xs) (hx : W32 xs) (hn : n ≤ 1099511627776) (hs : s < 32) :
    Calls Tryz.prog 162 #[.slice A n c, .int .u64 s] w (RetMag w (val xs / 2 ^ s)) := by
  have HL := Lib.hid hr.len
  have HX := Lib.hid hx
  clear hx
  go_enter Tryz.func162, Tryz.ntmps162
  go_wp2_with (at_make; refine wpList_make_lst (kx := .i64) (ky := .i64) (n := n) (c := n) Tryz.elemU32 Tryz.underlying22 rfl rfl rfl rfl (Nat.le_refl _) (by omega) (by omega) ?_)
  intro w1 B1 b1 l1
  rw [← fill_nil] at B1
  generalize hg : w.heap.size = g at *
  have HG := Lib.hid hg
  clear hg
  have r1 := hr.below b1
  have hsz : g < w1.heap.size := l1
  clear hr l1
  go_wp2
  go_loopw [6, 7, 8, 14] (fun _ _ _ i wr => ∃ (k : Nat), k ≤ n ∧ i = .int .i64 k ∧ Buf .u32 86 wr g (fill ((shrL s xs).take k) n) ∧ Rd .u32 wr g A n xs ∧ Below g w wr) (fun _ _ _ i _ => n - (intOf i).toNat)
  case atStart => exact ⟨0, by omega, rfl, B1, r1, b1⟩
  case round =>
    obtain ⟨k, hk, rfl, hB, q, hb⟩ := hrel
    clear B1 r1 b1
    by_cases hlt : k < n
    · obtain ⟨b1, o1, rfl, hb1, hc1⟩ := q.at_ hlt
      have hlk : ((shrL s xs).take k).length = k := by rw [List.length_take, shrL_len, HL.out]; omega
      have hxl := HX.out.getD k
      have hxl2 := HX.out.getD (k + 1)
      have hc : wr.cell? ⟨g, k, none⟩ = some (.int .u32 (((fill ((shrL s xs).take k) n).getD k 0 : Nat) : Int)) := hB.cell (by rw [fill_len (by omega)]; omega)
      have hf := hB.frozen k
      have HSET : Hid (fill ((shrL s xs).take k) n |>.set k ((xs.getD k 0 + 4294967296 * xs.getD (k + 1) 0) / 2 ^ s % 4294967296) |> (· = fill ((shrL s xs).take (k + 1)) n)) := by
        show _ = _
        rw [fill_set _ hlt hlk, take_getD (shrL s xs) k (by rw [shrL_len, HL.out]; omega), shrL_get s xs k (by rw [HL.out]; omega)]
      generalize (fill ((shrL s xs).take k) n).getD k 0 = old at *
      clear hlk
      by_cases hlt2 : k + 1 < n
      · obtain ⟨b2, o2, e, _, hc2⟩ := q.at_ hlt2
        injection e with e
        injection e with e1 e2
        subst e1 e2
        have hj := u64_join' (xs.getD k 0) (xs.getD (k + 1) 0) hxl hxl2
        have hlt2' : decide ((k : Int) + 1 < (n : Int)) = true := by simp; omega
        generalize xs.getD k 0 = x at *
        generalize xs.getD (k + 1) 0 = y at *
        have hts : x + 4294967296 * y ≤ 18446744073709551615 := by omega
        generalize x + 4294967296 * y = t at *
        have hq : (t : Int) / 2 ^ s = ((t / 2 ^ s : Nat) : Int) := by simp
        generalize t / 2 ^ s = u at *
        go_wp2
        go_roundw
        case rel => exact ⟨k + 1, by omega, by go_num, by have h := hB.setZ (z := (u : Int) % 4294967296) (y := u % 4294967296) k (by omega); rw [HSET.out] at h; exact h, q.setCell (Nat.le_refl _) _, hb.setCell (Nat.le_refl _) _⟩
        case measure => simp [intOf] <;> omega
      · have hy0 : xs.getD (k + 1) 0 = 0 := getD_beyond xs (k + 1) (by rw [HL.out]; omega)
        rw [hy0, Nat.mul_zero, Nat.add_zero] at HSET
        have hlt2' : decide ((k : Int) + 1 < (n : Int)) = false := by simp; omega
        generalize xs.getD k 0 = x at *
        have hq : (x : Int) / 2 ^ s = ((x / 2 ^ s : Nat) : Int) := by simp
        have hxs : x / 2 ^ s < 4294967296 := Nat.lt_of_le_of_lt (Nat.div_le_self _ _) hxl
        generalize x / 2 ^ s = u at *
        rw [Nat.mod_eq_of_lt hxs] at HSET
        clear hy0
        go_wp2
        go_roundw
        case rel => exact ⟨k + 1, by omega, by go_num, by have h := hB.setZ (z := (u : Int)) (y := u) k rfl; rw [HSET.out] at h; exact h, q.setCell (Nat.le_refl _) _, hb.setCell (Nat.le_refl _) _⟩
        case measure => simp [intOf] <;> omega
    · obtain rfl : k = n := by omega
      rw [List.take_of_length_le (by rw [shrL_len, HL.out]; omega), fill_full (by rw [shrL_len, HL.out])] at hB
      have hrd := hB.rd
      rw [shrL_len, HL.out] at hrd
      have htr := trim_any (c := k) _ hrd (shrL_w32 s xs) (Nat.le_refl _) (by omega)
      have HT := Lib.hid htr
      have HD := Lib.hid hrd
      have HV2 := Lib.hid (shrL_val s hs xs HX.out)
      have HLs : Hid ((shrL s xs).length = k) := by unfold Hid; rw [shrL_len, HL.out]
      generalize shrL s xs = zs at *
      clear htr hrd
      go_wp2_with fail
      refine HT.out.mono ?_
      rintro e w3 ⟨m, hm, ht, rfl, rfl⟩
      clear HT
      go_wp2
      go_ret
      have r3 := HD.out.take (j := m) (by rw [← HLs.out]; exact hm)
      rw [ht, HV2.out] at r3
      exact ⟨_, m, m, rfl, r3, Nat.le_refl _, by have := HLs.out; omega, by rw [HG.out]; exact hb⟩
end Go.Proofs.YtociocengfjioaaGreatDoor
