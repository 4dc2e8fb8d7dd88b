/- Walk of Sqrt of the program. -/
import Derived.Test.YteicjbinginamaaDoorSqrtPlain
namespace Go.Proofs.YteicjbinginamaaDoor
open Go.RowKit
set_option linter.unusedVariables false

theorem Lim.blen {k : Nat} {z : Int} (h : Lim k z) : blen z.natAbs ≤ 32 * k := blen_le (by rw [Nat.pow_mul]; exact h)

def RetSq (w : World) (x : Int) (e : Ending) (w' : World) : Prop := ∃ z code, RetIE w z code e w' ∧ SqSpec x z code

/-- the state of the loop of Sqrt -/
def SqS (w wr : World) (g6 g7 : Nat) (s : Bool) (A : Option Addr) (n c : Nat) (a y Y : Nat) : Prop :=
  ∃ t A' n' c' t2 A2 n2 c2, Pr wr g6 t A' n' c' ∧ CInt wr t A' n' c' (y : Int) ∧ Pr wr g7 t2 A2 n2 c2 ∧ CInt wr t2 A2 n2 c2 2 ∧ Pr wr w.heap.size s A n c ∧ AInt wr s A n c (a : Int) ∧ Pr wr (w.heap.size + 1) false none 0 0 ∧ Below w.heap.size w wr ∧ 0 < y ∧ y ≤ Y ∧ (∀ q, q * q ≤ a → q ≤ y)

theorem lim_pow {k K : Nat} (h : k < 32 * K) : Lim K ((2 ^ k : Nat) : Int) := by
  unfold Lim
  rw [Int.natAbs_natCast, show (4294967296 : Nat) = 2 ^ 32 by rfl, ← Nat.pow_mul]
  exact Nat.pow_lt_pow_right (by omega) h
theorem Lim.nat_le {K a b : Nat} (h : Lim K (b : Int)) (hab : a ≤ b) : Lim K (a : Int) := by
  unfold Lim at *
  rw [Int.natAbs_natCast] at *
  omega
theorem newton_fdiv (y a : Nat) : ((y : Int) + (a : Int).fdiv y).fdiv 2 = (((y + a / y) / 2 : Nat) : Int) := by
  rw [Int.fdiv_eq_ediv_of_nonneg _ (by omega), Int.fdiv_eq_ediv_of_nonneg _ (by omega)]
  rfl

theorem pow_one_digit (k : Nat) : val ((List.replicate (k / 32 + 1) 0).set (k / 32) (2 ^ (k % 32))) = 2 ^ k := by
  have h := val_set (List.replicate (k / 32 + 1) 0) (k / 32) (2 ^ (k % 32)) (by simp)
  rw [val_rep] at h
  have h0 : (List.replicate (k / 32 + 1) 0).getD (k / 32) 0 = 0 := by rw [List.getD_eq_getElem?_getD]; simp
  rw [h0, Nat.mul_zero, Nat.add_zero, Nat.zero_add] at h
  rw [h, show (4294967296 : Nat) = 2 ^ 32 by rfl, ← Nat.pow_mul, ← Nat.pow_add]
  congr 1
  omega

set_option maxHeartbeats 4000000 in
set_option maxRecDepth 100000 in
theorem sqrt_any {s : Bool} {A : Option Addr} {n c : Nat} {x : Int} (w : World) (ha : AInt w s A n c x) (hn : n ≤ 1048576) :
    Calls Tryd.prog 42 #[.agg #[.bool s, .slice A n c]] w (RetSq w x) := by
  obtain ⟨W, hW, bW, pa, pr⟩ := boxes1 w s A n c
  replace ha := ha.call bW
  have a0 := pa.cell0
  have a1 := pa.cell1
  have H1 := Lib.hid (sign_any W ha)
  go_enter Tryd.func42, Tryd.ntmps42
  go_upto_region 1 with (fail)
  rw [← hW]
  clear hW
  go_wp2_with fail
  rcases Int.lt_trichotomy x 0 with hx | hx | hx
  · rw [Int.sign_eq_neg_one_of_neg hx] at H1
    refine H1.out.mono ?_
    rintro e X1 ⟨rfl, d1⟩
    have p2 := pr.call d1
    obtain ⟨q0, q1, f0, f1, k0, k1⟩ := p2.all (.bool false) (.slice none 0 0)
    have fin : RetSq w x (.returned (.tuple #[.agg #[.bool false, .slice none 0 0], .int .i64 5])) ((X1.setCell ⟨w.heap.size + 1, 0, none⟩ (.bool false)).setCell ⟨w.heap.size + 1, 1, none⟩ (.slice none 0 0)) :=
      ⟨0, 5, ⟨_, _, _, _, rfl, CInt.zero _, below_stored (bthen bW d1) (by omega) _ _⟩, .inl ⟨hx, rfl, rfl⟩⟩
    have F := Lib.hid fin
    clear fin hx
    go_wp2
    refine bodyPost_ret (v := .tuple #[.agg #[.bool false, .slice none 0 0], .int .i64 5]) (by simp [results, Tryd.results42, go_sem, k0, k1]) rfl ?_
    exact F.out
  · subst hx
    refine H1.out.mono ?_
    rintro e X1 ⟨rfl, d1⟩
    have p2 := pr.call d1
    obtain ⟨q0, q1, f0, f1, k0, k1⟩ := p2.all (.bool false) (.slice none 0 0)
    have fin : RetSq w 0 (.returned (.tuple #[.agg #[.bool false, .slice none 0 0], .int .i64 0])) ((X1.setCell ⟨w.heap.size + 1, 0, none⟩ (.bool false)).setCell ⟨w.heap.size + 1, 1, none⟩ (.slice none 0 0)) :=
      ⟨0, 0, ⟨_, _, _, _, rfl, CInt.zero _, below_stored (bthen bW d1) (by omega) _ _⟩, .inr ⟨by omega, rfl, 0, 0, rfl, rfl, by omega, by omega⟩⟩
    have F := Lib.hid fin
    clear fin
    go_wp2
    refine bodyPost_ret (v := .tuple #[.agg #[.bool false, .slice none 0 0], .int .i64 0]) (by simp [results, Tryd.results42, go_sem, k0, k1]) rfl ?_
    exact F.out
  · rw [Int.sign_eq_one_of_pos hx] at H1
    obtain ⟨a, rfl⟩ : ∃ a : Nat, x = a := ⟨x.toNat, by omega⟩
    refine H1.out.mono ?_
    rintro e X1 ⟨rfl, d1⟩
    (replace pa := pa.call d1); (replace pr := pr.call d1); (replace ha := ha.call d1)
    replace bW := bthen bW d1
    clear H1 d1 a0 a1
    obtain ⟨a0, a1⟩ := pa.cells1
    have H2 := Lib.hid (bitLen_any X1 ha (by omega))
    rw [Int.natAbs_natCast] at H2
    have hbl : blen a ≤ 33554432 := by have h := ha.lim.blen; rw [Int.natAbs_natCast] at h; omega
    have HST := Lib.hid (start_gt a)
    go_wp2_with fail
    refine H2.out.mono ?_
    rintro e X2 ⟨rfl, d2⟩
    (replace pa := pa.call d2); (replace pr := pr.call d2); (replace ha := ha.call d2)
    replace bW := bthen bW d2
    clear H2 d2 a0 a1
    obtain ⟨k, hk⟩ : ∃ k, (blen a + 1) / 2 = k := ⟨_, rfl⟩
    rw [hk] at HST
    have hkb : k ≤ 16777217 := by omega
    have hke : ((blen a : Int) + 1) / 2 = (k : Int) := by omega
    have hke' : ((blen a : Int) + 1).tdiv 2 = (k : Int) := by rw [Int.tdiv_eq_ediv_of_nonneg (by omega)]; omega
    generalize blen a = bl at *
    go_upto_region 7 with (fail)
    have q1 : (k : Int).tdiv 32 = ((k / 32 : Nat) : Int) := by rw [Int.tdiv_eq_ediv_of_nonneg (by omega)]; omega
    have q2 : (k : Int) / 32 = ((k / 32 : Nat) : Int) := by omega
    have q3 : (k : Int).tmod 32 = ((k % 32 : Nat) : Int) := by rw [Int.tmod_eq_emod_of_nonneg (by omega)]; omega
    have q4 : (k : Int) % 32 = ((k % 32 : Nat) : Int) := by omega
    have hp2 : 2 ^ (k % 32) ≤ 2147483648 := Nat.pow_le_pow_right (by omega) (show k % 32 ≤ 31 by omega)
    have ep : IntKind.u32.wrap ((2 : Int) ^ (k % 32)) = ((2 ^ (k % 32) : Nat) : Int) := by
      rw [show ((2 : Int) ^ (k % 32)) = ((2 ^ (k % 32) : Nat) : Int) by simp]; exact wrap_small _ hp2
    have HV := Lib.hid (pow_one_digit k)
    have ht32 : k % 32 < 32 := Nat.mod_lt _ (by omega)
    have hk32 : k / 32 ≤ 16777217 := by omega
    clear hke hke' hk hbl
    generalize k / 32 = k0 at *
    generalize 2 ^ (k % 32) = P2 at *
    generalize k % 32 = t at *
    go_wp2_with (at_make; refine wpList_make_lst (kx := .i64) (ky := .i64) (n := k0 + 1) (c := k0 + 1) Tryd.elemU32 Tryd.underlying22 rfl rfl (congrArg (Value.int .i64) (by omega)) (congrArg (Value.int .i64) (by omega)) (Nat.le_refl _) (by omega) (by omega) ?_)
    intro X3 B3 d3 l3
    have hc := B3.cell (i := k0) (by simp)
    have hf := B3.frozen k0
    have j1 : (0 : Int) ≤ (k0 : Int) := by omega
    have j2 : (k0 : Int) < (k0 : Int) + 1 := by omega
    generalize hold : (List.replicate (k0 + 1) 0).getD k0 0 = old at *
    have B4 := B3.set_ k0 P2
    go_upto_region 9 with (fail)
    have b4 : Below X2.heap.size X2 (X3.setCell ⟨X2.heap.size, k0, none⟩ (.int .u32 (P2 : Int))) := d3.setCell (Nat.le_refl _) _
    (replace pa := pa.call b4); (replace pr := pr.call b4); (replace ha := ha.call b4)
    replace bW := bthen bW b4
    have hlen4 : ((List.replicate (k0 + 1) 0).set k0 P2).length = k0 + 1 := by simp
    have hrd := B4.rd
    rw [hlen4] at hrd
    have HWR := Lib.hid (wrap_any (c := k0 + 1) false (X3.setCell ⟨X2.heap.size, k0, none⟩ (.int .u32 (P2 : Int))) hrd (Nat.le_refl _) ((W32.rep _).set _ (by omega)) (Nat.le_refl _) (by omega))
    rw [HV.out, sgn_f] at HWR
    clear hc hf B3 B4 d3 l3 q1 q2 q3 q4 ep b4 hrd hlen4 hold HV j1 j2
    generalize X3.setCell ⟨X2.heap.size, k0, none⟩ (.int .u32 (P2 : Int)) = X4 at *
    go_wp2_with fail
    refine HWR.out.mono ?_
    rintro e X5 ⟨s5, A5, n5, c5, rfl, i6, d5⟩
    obtain ⟨X6, hX6⟩ : ∃ X6, X6 = X5.alloc (.cells #[.bool s5, .slice A5 n5 c5] 24) := ⟨_, rfl⟩
    have d6 : Below X5.heap.size X5 X6 := by rw [hX6]; exact bone _ _
    have p6 : Pr X6 X5.heap.size s5 A5 n5 c5 := by rw [hX6]; exact Pr.new _ _ _ _ _
    have sz := pr.lt
    have lt6 := d5.size
    (replace pa := pa.call d5); (replace pr := pr.call d5); (replace ha := ha.call d5)
    (replace pa := pa.call d6); (replace pr := pr.call d6); (replace ha := ha.call d6); (replace i6 := i6.call d6)
    replace bW := bthen (bthen bW d5) d6
    have lt7 := p6.lt
    clear HWR d5 d6
    go_upto_region 10 with (fail)
    rw [← hX6]
    clear hX6
    generalize X5.heap.size = g6 at *
    have H7 := Lib.hid (fromInt64_any 2 X6 (by omega) (by omega))
    go_wp2_with fail
    refine H7.out.mono ?_
    rintro e X7 ⟨s7, A7, n7, c7, rfl, i7, d7⟩
    obtain ⟨X8, hX8⟩ : ∃ X8, X8 = X7.alloc (.cells #[.bool s7, .slice A7 n7 c7] 24) := ⟨_, rfl⟩
    have d8 : Below X7.heap.size X7 X8 := by rw [hX8]; exact bone _ _
    have p7 : Pr X8 X7.heap.size s7 A7 n7 c7 := by rw [hX8]; exact Pr.new _ _ _ _ _
    have lt8 := d7.size
    (replace pa := pa.call d7); (replace pr := pr.call d7); (replace ha := ha.call d7); (replace i6 := i6.call d7); (replace p6 := p6.call d7)
    (replace pa := pa.call d8); (replace pr := pr.call d8); (replace ha := ha.call d8); (replace i6 := i6.call d8); (replace p6 := p6.call d8); (replace i7 := i7.call d8)
    replace bW := bthen (bthen bW d7) d8
    clear H7 d7 d8
    go_upto_block 0 with (fail)
    rw [← hX8]
    clear hX8
    generalize X7.heap.size = g7 at *
    have nq1 : w.heap.size + 1 < g6 := by omega
    have nq2 : g6 < g7 := by omega
    have LA : Lim 1048576 (a : Int) := (ha.lim).mono hn
    have LY : Lim 600000 ((2 ^ k : Nat) : Int) := lim_pow (by omega)
    have hY0 : 0 < 2 ^ k := Nat.pow_pos (by omega)
    generalize 2 ^ k = Y0 at *
    have HE : Hid (SqS w X8 g6 g7 s A n c a Y0 Y0) := ⟨_, _, _, _, _, _, _, _, p6, i6, p7, i7, pa, ha, pr, bW, hY0, Nat.le_refl _, fun q h => sq_le HST.out h⟩
    have L2 : Lim 1 2 := by unfold Lim; decide
    clear p6 i6 p7 i7 pa ha pr bW HST lt6 lt7 lt8 sz
    go_loopg [] Y0 (fun y wx => Hid (SqS w wx g6 g7 s A n c a y Y0))
    case atStart => exact HE
    case round =>
      clear HE
      obtain ⟨y, rfl⟩ : ∃ i, i = gk := ⟨_, rfl⟩
      obtain ⟨s6, A6, n6, c6, s7, A7, n7, c7, p6, i6, p7, i7, pa, ha, pr, bR, hy0, hyY, hq⟩ := hrel.out
      have HQ := Lib.hid hq
      have LF : Lim 1048577 ((a : Int).fdiv y) := LA.fdiv _
      have ly : Lim 600000 (y : Int) := LY.nat_le hyY
      have HL := Lib.hid (Lim.add (ly.mono (show 600000 ≤ 1048577 by omega)) LF)
      have l6 := i6.len ly
      have l7 := i7.len L2
      have HF := Lib.hid (newton_fdiv y a)
      have HG := Lib.hid (fun q h => newton_ge (a := a) (x := y) (s := q) hy0 h)
      have HEN := Lib.hid (fun h => newton_end (a := a) (x := y) hy0 h)
      have LN := Lib.hid (HL.out.fdiv 2)
      rw [HF.out] at LN
      generalize (y + a / y) / 2 = nx at *
      have hnx : 0 < nx := HG.out 1 (by omega)
      clear hrel hq
      obtain ⟨a0, a1, b0, b1⟩ := pa.cells p6
      have HD := Lib.hid (divMod_any wr ha i6.any (by omega) (by omega))
      go_wp2_with fail
      refine HD.out.mono ?_
      rintro e X9 ⟨s1, A1, n1, c1, s2, A2, n2, c2, code, rfl, i8, i9, -, d9⟩
      obtain ⟨X10, hX10, b10, p8, p9⟩ := boxes2' X9 s1 s2 A1 A2 n1 n2 c1 c2
      have l8 := i8.len LF
      have z9 := d9.size
      have z7 := p7.lt
      (replace p6 := p6.call d9); (replace i6 := i6.call d9); (replace p7 := p7.call d9); (replace i7 := i7.call d9); (replace pa := pa.call d9); (replace ha := ha.call d9); (replace pr := pr.call d9)
      (replace p6 := p6.call b10); (replace i6 := i6.call b10); (replace p7 := p7.call b10); (replace i7 := i7.call b10); (replace pa := pa.call b10); (replace ha := ha.call b10); (replace pr := pr.call b10); (replace i8 := i8.call b10)
      replace bR := bthen (bthen bR d9) b10
      clear HD d9 b10 a0 a1 b0 b1 i9 p9 LF
      go_upto_region 12 with (fail)
      rw [← hX10]
      clear hX10
      generalize X9.heap.size = g8 at *
      go_cut [11, 12] (fun v v' wz => ∃ rm, Box2 X10 wz v v' (nx : Int) rm)
      case first =>
        refine wp_region_held_drew (S := fun w' => Below X10.heap.size X10 w') (by kernel_rfl) (bdrew X10) (fun _ => ?_)
        have hS : Below X10.heap.size X10 X10.drew := bdrew X10
        generalize X10.drew = u0 at hS ⊢
        refine wpAnyH_take (i := 0) (oi := ⟨_, _, _, _, _, _⟩) (v := ?_) rfl (by kernel_rfl) (by kernel_rfl) (by kernel_rfl) (fun _ _ _ h => h) (Or.inl ⟨by rfl, ?_⟩) hS ?_
        rotate_left
        · intro w' hS'; have p' := p6.call hS'; have c0 := p'.cell0; have c1 := p'.cell1; (first | (go_simp; done) | (go_simp; with_reducible rfl) | with_reducible rfl)
        (try simp only [Act.put, List.setIfInBounds_toArray, List.set_cons_zero, List.set_cons_succ])
        refine wpAnyH_take (i := 1) (oi := ⟨_, _, _, _, _, _⟩) (v := ?_) rfl (by kernel_rfl) (by kernel_rfl) (by kernel_rfl) (fun _ _ _ h => h) (Or.inl ⟨by rfl, ?_⟩) hS ?_
        rotate_left
        · intro w' hS'; have p' := p8.call hS'; have c0 := p'.cell0; have c1 := p'.cell1; (first | (go_simp; done) | (go_simp; with_reducible rfl) | with_reducible rfl)
        (try simp only [Act.put, List.setIfInBounds_toArray, List.set_cons_zero, List.set_cons_succ])
        refine wpAnyH_take (i := 3) (oi := ⟨_, _, _, _, _, _⟩) (v := ?_) rfl (by kernel_rfl) (by kernel_rfl) (by kernel_rfl) (fun _ _ _ h => h) (Or.inl ⟨by rfl, ?_⟩) hS ?_
        rotate_left
        · intro w' hS'; have p' := p7.call hS'; have c0 := p'.cell0; have c1 := p'.cell1; (first | (go_simp; done) | (go_simp; with_reducible rfl) | with_reducible rfl)
        (try simp only [Act.put, List.setIfInBounds_toArray, List.set_cons_zero, List.set_cons_succ])
        refine wpAnyH_ready (rs := [2, 9, 10]) (by kernel_rfl) (by simp) ?_
        refine AllReadyH.cons (o := ⟨_, _, _, _, _, _⟩) rfl (fun K hK => ?_) (AllReadyH.cons (o := ⟨_, _, _, _, _, _⟩) rfl (fun K hK => ?_) (AllReadyH.cons (o := ⟨_, _, _, _, _, _⟩) rfl (fun K hK => ?_) AllReadyH.nil))
        · go_simp
          refine (add_any _ (i6.call hS).any (i8.call hS).any (by omega) (by omega)).mono ?_
          rintro e u1 ⟨t1, B1, m1, e1, rfl, j1, d1⟩
          replace hS := bthen hS d1
          first | (with_reducible refine hK.out _ _ hS (fun _ => ?_)) | (go_wp2_with fail; with_reducible refine hK.out _ _ hS (fun _ => ?_))
          clear hK K
          (try simp only [Act.put, List.setIfInBounds_toArray, List.set_cons_zero, List.set_cons_succ])
          refine wpAnyH_ready (rs := [4, 9, 10]) (by kernel_rfl) (by simp) ?_
          refine AllReadyH.cons (o := ⟨_, _, _, _, _, _⟩) rfl (fun K hK => ?_) (AllReadyH.cons (o := ⟨_, _, _, _, _, _⟩) rfl (fun K hK => ?_) (AllReadyH.cons (o := ⟨_, _, _, _, _, _⟩) rfl (fun K hK => ?_) AllReadyH.nil))
          · go_simp
            refine (divMod_any _ j1.any (i7.call hS).any (Nat.le_trans (j1.len HL.out) (by omega)) (by omega)).mono ?_
            rintro e u2 ⟨t2, B2, m2, e2, t3, B3, m3, e3, cd, rfl, j2, j3, -, d2⟩
            replace hS := bthen hS d2
            (replace j1 := j1.call d2)
            first | (with_reducible refine hK.out _ _ hS (fun _ => ?_)) | (go_wp2_with fail; with_reducible refine hK.out _ _ hS (fun _ => ?_))
            clear hK K
            (try simp only [Act.put, List.setIfInBounds_toArray, List.set_cons_zero, List.set_cons_succ])
            refine wpAnyH_take (i := 5) (oi := ⟨_, _, _, _, _, _⟩) (v := ?_) rfl (by kernel_rfl) (by kernel_rfl) (by kernel_rfl) (fun _ _ _ h => h) (Or.inl ⟨by rfl, ?_⟩) hS ?_
            rotate_left
            · intro w' hS'; (first | (go_simp; done) | (go_simp; with_reducible rfl) | with_reducible rfl)
            (try simp only [Act.put, List.setIfInBounds_toArray, List.set_cons_zero, List.set_cons_succ])
            refine wpAnyH_take (i := 6) (oi := ⟨_, _, _, _, _, _⟩) (v := ?_) rfl (by kernel_rfl) (by kernel_rfl) (by kernel_rfl) (fun _ _ _ h => h) (Or.inl ⟨by rfl, ?_⟩) hS ?_
            rotate_left
            · intro w' hS'; (first | (go_simp; done) | (go_simp; with_reducible rfl) | with_reducible rfl)
            (try simp only [Act.put, List.setIfInBounds_toArray, List.set_cons_zero, List.set_cons_succ])
            refine wpAnyH_take (i := 7) (oi := ⟨_, _, _, _, _, _⟩) (v := ?_) rfl (by kernel_rfl) (by kernel_rfl) (by kernel_rfl) (fun _ _ _ h => h) (Or.inl ⟨by rfl, ?_⟩) hS ?_
            rotate_left
            · intro w' hS'; (first | (go_simp; done) | (go_simp; with_reducible rfl) | with_reducible rfl)
            (try simp only [Act.put, List.setIfInBounds_toArray, List.set_cons_zero, List.set_cons_succ])
            refine wpAnyH_take (i := 8) (oi := ⟨_, _, _, _, _, _⟩) (v := ?_) rfl (by kernel_rfl) (by kernel_rfl) (by kernel_rfl) (fun _ _ _ h => h) (Or.inl ⟨by rfl, ?_⟩) hS ?_
            rotate_left
            · intro w' hS'; (first | (go_simp; done) | (go_simp; with_reducible rfl) | with_reducible rfl)
            (try simp only [Act.put, List.setIfInBounds_toArray, List.set_cons_zero, List.set_cons_succ])
            refine wpAnyH_ready (rs := [9, 10]) (by kernel_rfl) (by simp) ?_
            refine AllReadyH.cons (o := ⟨_, _, _, _, _, _⟩) rfl (fun K hK => ?_) (AllReadyH.cons (o := ⟨_, _, _, _, _, _⟩) rfl (fun K hK => ?_) AllReadyH.nil)
            · go_simp
              have pz11 := Pr.new u2 false none 0 0
              have az := bone u2 (.cells #[.bool false, .slice none 0 0] 24)
              have hz11 := hS.size
              replace hS := bthen hS az
              (replace j1 := j1.call az); (replace j2 := j2.call az); (replace j3 := j3.call az)
              refine hK.out _ _ hS (fun _ => ?_)
              clear hK K az
              generalize hgz : u2.heap.size = gz11 at hz11 pz11 ⊢
              clear hgz
              generalize u2.alloc (.cells #[.bool false, .slice none 0 0] 24) = u2z11 at *
              (try simp only [Act.put, List.setIfInBounds_toArray, List.set_cons_zero, List.set_cons_succ])
              refine wpAnyH_ready (rs := [10]) (by kernel_rfl) (by simp) ?_
              refine AllReadyH.cons (o := ⟨_, _, _, _, _, _⟩) rfl (fun K hK => ?_) AllReadyH.nil
              go_simp
              have pz12 := Pr.new u2z11 false none 0 0
              have az := bone u2z11 (.cells #[.bool false, .slice none 0 0] 24)
              have hz12 := hS.size
              have lt11_12 := pz11.lt
              replace hS := bthen hS az
              (replace j1 := j1.call az); (replace j2 := j2.call az); (replace j3 := j3.call az); (replace pz11 := pz11.call az)
              refine hK.out _ _ hS (fun _ => ?_)
              clear hK K az
              generalize hgz : u2z11.heap.size = gz12 at hz12 pz12 ⊢ lt11_12
              clear hgz
              generalize u2z11.alloc (.cells #[.bool false, .slice none 0 0] 24) = u2z11z12 at *
              (try simp only [Act.put, List.setIfInBounds_toArray, List.set_cons_zero, List.set_cons_succ])
              refine wpAnyH_ready (rs := [11]) (by kernel_rfl) (by simp) ?_
              refine AllReadyH.cons (o := ⟨_, _, _, _, _, _⟩) rfl (fun K hK => ?_) AllReadyH.nil
              obtain ⟨q0, q1, f0, f1, k0, k1⟩ := pz11.all (.bool t2) (.slice B2 m2 e2)
              go_simp
              replace hS := below_stored hS hz11 (.bool t2) (.slice B2 m2 e2)
              refine hK.out _ _ hS (fun _ => ?_)
              clear hK K q0 q1 f0 f1 k0 k1
              replace j1 := j1.stored pz11 (.bool t2) (.slice B2 m2 e2)
              replace j2 := j2.stored pz11 (.bool t2) (.slice B2 m2 e2)
              replace j3 := j3.stored pz11 (.bool t2) (.slice B2 m2 e2)
              replace pz12 := pz12.far (g' := gz11) (by omega) (.bool t2) (.slice B2 m2 e2)
              replace pz11 := pz11.stored (s' := t2) (A' := B2) (n' := m2) (c' := e2)
              (try simp only [Act.put, List.setIfInBounds_toArray, List.set_cons_zero, List.set_cons_succ])
              refine wpAnyH_ready (rs := [12]) (by kernel_rfl) (by simp) ?_
              refine AllReadyH.cons (o := ⟨_, _, _, _, _, _⟩) rfl (fun K hK => ?_) AllReadyH.nil
              obtain ⟨q0, q1, f0, f1, k0, k1⟩ := pz12.all (.bool t3) (.slice B3 m3 e3)
              go_simp
              replace hS := below_stored hS hz12 (.bool t3) (.slice B3 m3 e3)
              refine hK.out _ _ hS (fun _ => ?_)
              clear hK K q0 q1 f0 f1 k0 k1
              replace j1 := j1.stored pz12 (.bool t3) (.slice B3 m3 e3)
              replace j2 := j2.stored pz12 (.bool t3) (.slice B3 m3 e3)
              replace j3 := j3.stored pz12 (.bool t3) (.slice B3 m3 e3)
              replace pz11 := pz11.far (g' := gz12) (by omega) (.bool t3) (.slice B3 m3 e3)
              replace pz12 := pz12.stored (s' := t3) (A' := B3) (n' := m3) (c' := e3)
              (try simp only [Act.put, List.setIfInBounds_toArray, List.set_cons_zero, List.set_cons_succ])
              refine wpAnyH_take (i := 13) (oi := ⟨_, _, _, _, _, _⟩) (v := ?_) rfl (by kernel_rfl) (by kernel_rfl) (by kernel_rfl) (fun _ _ _ h => h) (Or.inl ⟨by rfl, ?_⟩) hS ?_
              rotate_left
              · intro w' hS'; (first | (go_simp; done) | (go_simp; with_reducible rfl) | with_reducible rfl)
              (try simp only [Act.put, List.setIfInBounds_toArray, List.set_cons_zero, List.set_cons_succ])
              refine wpAnyH_done (by kernel_rfl) ?_ _
              go_wp2_with fail
              go_meet
              case rel => rw [HF.out] at j2; exact ⟨_, _, _, _, _, _, _, _, _, _, _, rfl, rfl, pz11, pz12, j2, j3, hS, hz11, hz12, by omega⟩
            · go_simp
              have pz12 := Pr.new u2 false none 0 0
              have az := bone u2 (.cells #[.bool false, .slice none 0 0] 24)
              have hz12 := hS.size
              replace hS := bthen hS az
              (replace j1 := j1.call az); (replace j2 := j2.call az); (replace j3 := j3.call az)
              refine hK.out _ _ hS (fun _ => ?_)
              clear hK K az
              generalize hgz : u2.heap.size = gz12 at hz12 pz12 ⊢
              clear hgz
              generalize u2.alloc (.cells #[.bool false, .slice none 0 0] 24) = u2z12 at *
              (try simp only [Act.put, List.setIfInBounds_toArray, List.set_cons_zero, List.set_cons_succ])
              refine wpAnyH_ready (rs := [9]) (by kernel_rfl) (by simp) ?_
              refine AllReadyH.cons (o := ⟨_, _, _, _, _, _⟩) rfl (fun K hK => ?_) AllReadyH.nil
              go_simp
              have pz11 := Pr.new u2z12 false none 0 0
              have az := bone u2z12 (.cells #[.bool false, .slice none 0 0] 24)
              have hz11 := hS.size
              have lt12_11 := pz12.lt
              replace hS := bthen hS az
              (replace j1 := j1.call az); (replace j2 := j2.call az); (replace j3 := j3.call az); (replace pz12 := pz12.call az)
              refine hK.out _ _ hS (fun _ => ?_)
              clear hK K az
              generalize hgz : u2z12.heap.size = gz11 at hz11 pz11 ⊢ lt12_11
              clear hgz
              generalize u2z12.alloc (.cells #[.bool false, .slice none 0 0] 24) = u2z12z11 at *
              (try simp only [Act.put, List.setIfInBounds_toArray, List.set_cons_zero, List.set_cons_succ])
              refine wpAnyH_ready (rs := [11]) (by kernel_rfl) (by simp) ?_
              refine AllReadyH.cons (o := ⟨_, _, _, _, _, _⟩) rfl (fun K hK => ?_) AllReadyH.nil
              obtain ⟨q0, q1, f0, f1, k0, k1⟩ := pz11.all (.bool t2) (.slice B2 m2 e2)
              go_simp
              replace hS := below_stored hS hz11 (.bool t2) (.slice B2 m2 e2)
              refine hK.out _ _ hS (fun _ => ?_)
              clear hK K q0 q1 f0 f1 k0 k1
              replace j1 := j1.stored pz11 (.bool t2) (.slice B2 m2 e2)
              replace j2 := j2.stored pz11 (.bool t2) (.slice B2 m2 e2)
              replace j3 := j3.stored pz11 (.bool t2) (.slice B2 m2 e2)
              replace pz12 := pz12.far (g' := gz11) (by omega) (.bool t2) (.slice B2 m2 e2)
              replace pz11 := pz11.stored (s' := t2) (A' := B2) (n' := m2) (c' := e2)
              (try simp only [Act.put, List.setIfInBounds_toArray, List.set_cons_zero, List.set_cons_succ])
              refine wpAnyH_ready (rs := [12]) (by kernel_rfl) (by simp) ?_
              refine AllReadyH.cons (o := ⟨_, _, _, _, _, _⟩) rfl (fun K hK => ?_) AllReadyH.nil
              obtain ⟨q0, q1, f0, f1, k0, k1⟩ := pz12.all (.bool t3) (.slice B3 m3 e3)
              go_simp
              replace hS := below_stored hS hz12 (.bool t3) (.slice B3 m3 e3)
              refine hK.out _ _ hS (fun _ => ?_)
              clear hK K q0 q1 f0 f1 k0 k1
              replace j1 := j1.stored pz12 (.bool t3) (.slice B3 m3 e3)
              replace j2 := j2.stored pz12 (.bool t3) (.slice B3 m3 e3)
              replace j3 := j3.stored pz12 (.bool t3) (.slice B3 m3 e3)
              replace pz11 := pz11.far (g' := gz12) (by omega) (.bool t3) (.slice B3 m3 e3)
              replace pz12 := pz12.stored (s' := t3) (A' := B3) (n' := m3) (c' := e3)
              (try simp only [Act.put, List.setIfInBounds_toArray, List.set_cons_zero, List.set_cons_succ])
              refine wpAnyH_take (i := 13) (oi := ⟨_, _, _, _, _, _⟩) (v := ?_) rfl (by kernel_rfl) (by kernel_rfl) (by kernel_rfl) (fun _ _ _ h => h) (Or.inl ⟨by rfl, ?_⟩) hS ?_
              rotate_left
              · intro w' hS'; (first | (go_simp; done) | (go_simp; with_reducible rfl) | with_reducible rfl)
              (try simp only [Act.put, List.setIfInBounds_toArray, List.set_cons_zero, List.set_cons_succ])
              refine wpAnyH_done (by kernel_rfl) ?_ _
              go_wp2_with fail
              go_meet
              case rel => rw [HF.out] at j2; exact ⟨_, _, _, _, _, _, _, _, _, _, _, rfl, rfl, pz11, pz12, j2, j3, hS, hz11, hz12, by omega⟩
          · go_simp
            have pz11 := Pr.new u1 false none 0 0
            have az := bone u1 (.cells #[.bool false, .slice none 0 0] 24)
            have hz11 := hS.size
            replace hS := bthen hS az
            (replace j1 := j1.call az)
            refine hK.out _ _ hS (fun _ => ?_)
            clear hK K az
            generalize hgz : u1.heap.size = gz11 at hz11 pz11 ⊢
            clear hgz
            generalize u1.alloc (.cells #[.bool false, .slice none 0 0] 24) = u1z11 at *
            (try simp only [Act.put, List.setIfInBounds_toArray, List.set_cons_zero, List.set_cons_succ])
            refine wpAnyH_ready (rs := [4, 10]) (by kernel_rfl) (by simp) ?_
            refine AllReadyH.cons (o := ⟨_, _, _, _, _, _⟩) rfl (fun K hK => ?_) (AllReadyH.cons (o := ⟨_, _, _, _, _, _⟩) rfl (fun K hK => ?_) AllReadyH.nil)
            · go_simp
              refine (divMod_any _ j1.any (i7.call hS).any (Nat.le_trans (j1.len HL.out) (by omega)) (by omega)).mono ?_
              rintro e u2 ⟨t2, B2, m2, e2, t3, B3, m3, e3, cd, rfl, j2, j3, -, d2⟩
              replace hS := bthen hS d2
              (replace j1 := j1.call d2); (replace pz11 := pz11.call d2)
              first | (with_reducible refine hK.out _ _ hS (fun _ => ?_)) | (go_wp2_with fail; with_reducible refine hK.out _ _ hS (fun _ => ?_))
              clear hK K
              (try simp only [Act.put, List.setIfInBounds_toArray, List.set_cons_zero, List.set_cons_succ])
              refine wpAnyH_take (i := 5) (oi := ⟨_, _, _, _, _, _⟩) (v := ?_) rfl (by kernel_rfl) (by kernel_rfl) (by kernel_rfl) (fun _ _ _ h => h) (Or.inl ⟨by rfl, ?_⟩) hS ?_
              rotate_left
              · intro w' hS'; (first | (go_simp; done) | (go_simp; with_reducible rfl) | with_reducible rfl)
              (try simp only [Act.put, List.setIfInBounds_toArray, List.set_cons_zero, List.set_cons_succ])
              refine wpAnyH_take (i := 6) (oi := ⟨_, _, _, _, _, _⟩) (v := ?_) rfl (by kernel_rfl) (by kernel_rfl) (by kernel_rfl) (fun _ _ _ h => h) (Or.inl ⟨by rfl, ?_⟩) hS ?_
              rotate_left
              · intro w' hS'; (first | (go_simp; done) | (go_simp; with_reducible rfl) | with_reducible rfl)
              (try simp only [Act.put, List.setIfInBounds_toArray, List.set_cons_zero, List.set_cons_succ])
              refine wpAnyH_take (i := 7) (oi := ⟨_, _, _, _, _, _⟩) (v := ?_) rfl (by kernel_rfl) (by kernel_rfl) (by kernel_rfl) (fun _ _ _ h => h) (Or.inl ⟨by rfl, ?_⟩) hS ?_
              rotate_left
              · intro w' hS'; (first | (go_simp; done) | (go_simp; with_reducible rfl) | with_reducible rfl)
              (try simp only [Act.put, List.setIfInBounds_toArray, List.set_cons_zero, List.set_cons_succ])
              refine wpAnyH_take (i := 8) (oi := ⟨_, _, _, _, _, _⟩) (v := ?_) rfl (by kernel_rfl) (by kernel_rfl) (by kernel_rfl) (fun _ _ _ h => h) (Or.inl ⟨by rfl, ?_⟩) hS ?_
              rotate_left
              · intro w' hS'; (first | (go_simp; done) | (go_simp; with_reducible rfl) | with_reducible rfl)
              (try simp only [Act.put, List.setIfInBounds_toArray, List.set_cons_zero, List.set_cons_succ])
              refine wpAnyH_ready (rs := [10]) (by kernel_rfl) (by simp) ?_
              refine AllReadyH.cons (o := ⟨_, _, _, _, _, _⟩) rfl (fun K hK => ?_) AllReadyH.nil
              go_simp
              have pz12 := Pr.new u2 false none 0 0
              have az := bone u2 (.cells #[.bool false, .slice none 0 0] 24)
              have hz12 := hS.size
              have lt11_12 := pz11.lt
              replace hS := bthen hS az
              (replace j1 := j1.call az); (replace j2 := j2.call az); (replace j3 := j3.call az); (replace pz11 := pz11.call az)
              refine hK.out _ _ hS (fun _ => ?_)
              clear hK K az
              generalize hgz : u2.heap.size = gz12 at hz12 pz12 ⊢ lt11_12
              clear hgz
              generalize u2.alloc (.cells #[.bool false, .slice none 0 0] 24) = u2z12 at *
              (try simp only [Act.put, List.setIfInBounds_toArray, List.set_cons_zero, List.set_cons_succ])
              refine wpAnyH_ready (rs := [11]) (by kernel_rfl) (by simp) ?_
              refine AllReadyH.cons (o := ⟨_, _, _, _, _, _⟩) rfl (fun K hK => ?_) AllReadyH.nil
              obtain ⟨q0, q1, f0, f1, k0, k1⟩ := pz11.all (.bool t2) (.slice B2 m2 e2)
              go_simp
              replace hS := below_stored hS hz11 (.bool t2) (.slice B2 m2 e2)
              refine hK.out _ _ hS (fun _ => ?_)
              clear hK K q0 q1 f0 f1 k0 k1
              replace j1 := j1.stored pz11 (.bool t2) (.slice B2 m2 e2)
              replace j2 := j2.stored pz11 (.bool t2) (.slice B2 m2 e2)
              replace j3 := j3.stored pz11 (.bool t2) (.slice B2 m2 e2)
              replace pz12 := pz12.far (g' := gz11) (by omega) (.bool t2) (.slice B2 m2 e2)
              replace pz11 := pz11.stored (s' := t2) (A' := B2) (n' := m2) (c' := e2)
              (try simp only [Act.put, List.setIfInBounds_toArray, List.set_cons_zero, List.set_cons_succ])
              refine wpAnyH_ready (rs := [12]) (by kernel_rfl) (by simp) ?_
              refine AllReadyH.cons (o := ⟨_, _, _, _, _, _⟩) rfl (fun K hK => ?_) AllReadyH.nil
              obtain ⟨q0, q1, f0, f1, k0, k1⟩ := pz12.all (.bool t3) (.slice B3 m3 e3)
              go_simp
              replace hS := below_stored hS hz12 (.bool t3) (.slice B3 m3 e3)
              refine hK.out _ _ hS (fun _ => ?_)
              clear hK K q0 q1 f0 f1 k0 k1
              replace j1 := j1.stored pz12 (.bool t3) (.slice B3 m3 e3)
              replace j2 := j2.stored pz12 (.bool t3) (.slice B3 m3 e3)
              replace j3 := j3.stored pz12 (.bool t3) (.slice B3 m3 e3)
              replace pz11 := pz11.far (g' := gz12) (by omega) (.bool t3) (.slice B3 m3 e3)
              replace pz12 := pz12.stored (s' := t3) (A' := B3) (n' := m3) (c' := e3)
              (try simp only [Act.put, List.setIfInBounds_toArray, List.set_cons_zero, List.set_cons_succ])
              refine wpAnyH_take (i := 13) (oi := ⟨_, _, _, _, _, _⟩) (v := ?_) rfl (by kernel_rfl) (by kernel_rfl) (by kernel_rfl) (fun _ _ _ h => h) (Or.inl ⟨by rfl, ?_⟩) hS ?_
              rotate_left
              · intro w' hS'; (first | (go_simp; done) | (go_simp; with_reducible rfl) | with_reducible rfl)
              (try simp only [Act.put, List.setIfInBounds_toArray, List.set_cons_zero, List.set_cons_succ])
              refine wpAnyH_done (by kernel_rfl) ?_ _
              go_wp2_with fail
              go_meet
              case rel => rw [HF.out] at j2; exact ⟨_, _, _, _, _, _, _, _, _, _, _, rfl, rfl, pz11, pz12, j2, j3, hS, hz11, hz12, by omega⟩
            · go_simp
              have pz12 := Pr.new u1z11 false none 0 0
              have az := bone u1z11 (.cells #[.bool false, .slice none 0 0] 24)
              have hz12 := hS.size
              have lt11_12 := pz11.lt
              replace hS := bthen hS az
              (replace j1 := j1.call az); (replace pz11 := pz11.call az)
              refine hK.out _ _ hS (fun _ => ?_)
              clear hK K az
              generalize hgz : u1z11.heap.size = gz12 at hz12 pz12 ⊢ lt11_12
              clear hgz
              generalize u1z11.alloc (.cells #[.bool false, .slice none 0 0] 24) = u1z11z12 at *
              (try simp only [Act.put, List.setIfInBounds_toArray, List.set_cons_zero, List.set_cons_succ])
              refine wpAnyH_ready (rs := [4]) (by kernel_rfl) (by simp) ?_
              refine AllReadyH.cons (o := ⟨_, _, _, _, _, _⟩) rfl (fun K hK => ?_) AllReadyH.nil
              go_simp
              refine (divMod_any _ j1.any (i7.call hS).any (Nat.le_trans (j1.len HL.out) (by omega)) (by omega)).mono ?_
              rintro e u2 ⟨t2, B2, m2, e2, t3, B3, m3, e3, cd, rfl, j2, j3, -, d2⟩
              replace hS := bthen hS d2
              (replace j1 := j1.call d2); (replace pz11 := pz11.call d2); (replace pz12 := pz12.call d2)
              first | (with_reducible refine hK.out _ _ hS (fun _ => ?_)) | (go_wp2_with fail; with_reducible refine hK.out _ _ hS (fun _ => ?_))
              clear hK K
              (try simp only [Act.put, List.setIfInBounds_toArray, List.set_cons_zero, List.set_cons_succ])
              refine wpAnyH_take (i := 5) (oi := ⟨_, _, _, _, _, _⟩) (v := ?_) rfl (by kernel_rfl) (by kernel_rfl) (by kernel_rfl) (fun _ _ _ h => h) (Or.inl ⟨by rfl, ?_⟩) hS ?_
              rotate_left
              · intro w' hS'; (first | (go_simp; done) | (go_simp; with_reducible rfl) | with_reducible rfl)
              (try simp only [Act.put, List.setIfInBounds_toArray, List.set_cons_zero, List.set_cons_succ])
              refine wpAnyH_take (i := 6) (oi := ⟨_, _, _, _, _, _⟩) (v := ?_) rfl (by kernel_rfl) (by kernel_rfl) (by kernel_rfl) (fun _ _ _ h => h) (Or.inl ⟨by rfl, ?_⟩) hS ?_
              rotate_left
              · intro w' hS'; (first | (go_simp; done) | (go_simp; with_reducible rfl) | with_reducible rfl)
              (try simp only [Act.put, List.setIfInBounds_toArray, List.set_cons_zero, List.set_cons_succ])
              refine wpAnyH_take (i := 7) (oi := ⟨_, _, _, _, _, _⟩) (v := ?_) rfl (by kernel_rfl) (by kernel_rfl) (by kernel_rfl) (fun _ _ _ h => h) (Or.inl ⟨by rfl, ?_⟩) hS ?_
              rotate_left
              · intro w' hS'; (first | (go_simp; done) | (go_simp; with_reducible rfl) | with_reducible rfl)
              (try simp only [Act.put, List.setIfInBounds_toArray, List.set_cons_zero, List.set_cons_succ])
              refine wpAnyH_take (i := 8) (oi := ⟨_, _, _, _, _, _⟩) (v := ?_) rfl (by kernel_rfl) (by kernel_rfl) (by kernel_rfl) (fun _ _ _ h => h) (Or.inl ⟨by rfl, ?_⟩) hS ?_
              rotate_left
              · intro w' hS'; (first | (go_simp; done) | (go_simp; with_reducible rfl) | with_reducible rfl)
              (try simp only [Act.put, List.setIfInBounds_toArray, List.set_cons_zero, List.set_cons_succ])
              refine wpAnyH_ready (rs := [11]) (by kernel_rfl) (by simp) ?_
              refine AllReadyH.cons (o := ⟨_, _, _, _, _, _⟩) rfl (fun K hK => ?_) AllReadyH.nil
              obtain ⟨q0, q1, f0, f1, k0, k1⟩ := pz11.all (.bool t2) (.slice B2 m2 e2)
              go_simp
              replace hS := below_stored hS hz11 (.bool t2) (.slice B2 m2 e2)
              refine hK.out _ _ hS (fun _ => ?_)
              clear hK K q0 q1 f0 f1 k0 k1
              replace j1 := j1.stored pz11 (.bool t2) (.slice B2 m2 e2)
              replace j2 := j2.stored pz11 (.bool t2) (.slice B2 m2 e2)
              replace j3 := j3.stored pz11 (.bool t2) (.slice B2 m2 e2)
              replace pz12 := pz12.far (g' := gz11) (by omega) (.bool t2) (.slice B2 m2 e2)
              replace pz11 := pz11.stored (s' := t2) (A' := B2) (n' := m2) (c' := e2)
              (try simp only [Act.put, List.setIfInBounds_toArray, List.set_cons_zero, List.set_cons_succ])
              refine wpAnyH_ready (rs := [12]) (by kernel_rfl) (by simp) ?_
              refine AllReadyH.cons (o := ⟨_, _, _, _, _, _⟩) rfl (fun K hK => ?_) AllReadyH.nil
              obtain ⟨q0, q1, f0, f1, k0, k1⟩ := pz12.all (.bool t3) (.slice B3 m3 e3)
              go_simp
              replace hS := below_stored hS hz12 (.bool t3) (.slice B3 m3 e3)
              refine hK.out _ _ hS (fun _ => ?_)
              clear hK K q0 q1 f0 f1 k0 k1
              replace j1 := j1.stored pz12 (.bool t3) (.slice B3 m3 e3)
              replace j2 := j2.stored pz12 (.bool t3) (.slice B3 m3 e3)
              replace j3 := j3.stored pz12 (.bool t3) (.slice B3 m3 e3)
              replace pz11 := pz11.far (g' := gz12) (by omega) (.bool t3) (.slice B3 m3 e3)
              replace pz12 := pz12.stored (s' := t3) (A' := B3) (n' := m3) (c' := e3)
              (try simp only [Act.put, List.setIfInBounds_toArray, List.set_cons_zero, List.set_cons_succ])
              refine wpAnyH_take (i := 13) (oi := ⟨_, _, _, _, _, _⟩) (v := ?_) rfl (by kernel_rfl) (by kernel_rfl) (by kernel_rfl) (fun _ _ _ h => h) (Or.inl ⟨by rfl, ?_⟩) hS ?_
              rotate_left
              · intro w' hS'; (first | (go_simp; done) | (go_simp; with_reducible rfl) | with_reducible rfl)
              (try simp only [Act.put, List.setIfInBounds_toArray, List.set_cons_zero, List.set_cons_succ])
              refine wpAnyH_done (by kernel_rfl) ?_ _
              go_wp2_with fail
              go_meet
              case rel => rw [HF.out] at j2; exact ⟨_, _, _, _, _, _, _, _, _, _, _, rfl, rfl, pz11, pz12, j2, j3, hS, hz11, hz12, by omega⟩
          · go_simp
            have pz12 := Pr.new u1 false none 0 0
            have az := bone u1 (.cells #[.bool false, .slice none 0 0] 24)
            have hz12 := hS.size
            replace hS := bthen hS az
            (replace j1 := j1.call az)
            refine hK.out _ _ hS (fun _ => ?_)
            clear hK K az
            generalize hgz : u1.heap.size = gz12 at hz12 pz12 ⊢
            clear hgz
            generalize u1.alloc (.cells #[.bool false, .slice none 0 0] 24) = u1z12 at *
            (try simp only [Act.put, List.setIfInBounds_toArray, List.set_cons_zero, List.set_cons_succ])
            refine wpAnyH_ready (rs := [4, 9]) (by kernel_rfl) (by simp) ?_
            refine AllReadyH.cons (o := ⟨_, _, _, _, _, _⟩) rfl (fun K hK => ?_) (AllReadyH.cons (o := ⟨_, _, _, _, _, _⟩) rfl (fun K hK => ?_) AllReadyH.nil)
            · go_simp
              refine (divMod_any _ j1.any (i7.call hS).any (Nat.le_trans (j1.len HL.out) (by omega)) (by omega)).mono ?_
              rintro e u2 ⟨t2, B2, m2, e2, t3, B3, m3, e3, cd, rfl, j2, j3, -, d2⟩
              replace hS := bthen hS d2
              (replace j1 := j1.call d2); (replace pz12 := pz12.call d2)
              first | (with_reducible refine hK.out _ _ hS (fun _ => ?_)) | (go_wp2_with fail; with_reducible refine hK.out _ _ hS (fun _ => ?_))
              clear hK K
              (try simp only [Act.put, List.setIfInBounds_toArray, List.set_cons_zero, List.set_cons_succ])
              refine wpAnyH_take (i := 5) (oi := ⟨_, _, _, _, _, _⟩) (v := ?_) rfl (by kernel_rfl) (by kernel_rfl) (by kernel_rfl) (fun _ _ _ h => h) (Or.inl ⟨by rfl, ?_⟩) hS ?_
              rotate_left
              · intro w' hS'; (first | (go_simp; done) | (go_simp; with_reducible rfl) | with_reducible rfl)
              (try simp only [Act.put, List.setIfInBounds_toArray, List.set_cons_zero, List.set_cons_succ])
              refine wpAnyH_take (i := 6) (oi := ⟨_, _, _, _, _, _⟩) (v := ?_) rfl (by kernel_rfl) (by kernel_rfl) (by kernel_rfl) (fun _ _ _ h => h) (Or.inl ⟨by rfl, ?_⟩) hS ?_
              rotate_left
              · intro w' hS'; (first | (go_simp; done) | (go_simp; with_reducible rfl) | with_reducible rfl)
              (try simp only [Act.put, List.setIfInBounds_toArray, List.set_cons_zero, List.set_cons_succ])
              refine wpAnyH_take (i := 7) (oi := ⟨_, _, _, _, _, _⟩) (v := ?_) rfl (by kernel_rfl) (by kernel_rfl) (by kernel_rfl) (fun _ _ _ h => h) (Or.inl ⟨by rfl, ?_⟩) hS ?_
              rotate_left
              · intro w' hS'; (first | (go_simp; done) | (go_simp; with_reducible rfl) | with_reducible rfl)
              (try simp only [Act.put, List.setIfInBounds_toArray, List.set_cons_zero, List.set_cons_succ])
              refine wpAnyH_take (i := 8) (oi := ⟨_, _, _, _, _, _⟩) (v := ?_) rfl (by kernel_rfl) (by kernel_rfl) (by kernel_rfl) (fun _ _ _ h => h) (Or.inl ⟨by rfl, ?_⟩) hS ?_
              rotate_left
              · intro w' hS'; (first | (go_simp; done) | (go_simp; with_reducible rfl) | with_reducible rfl)
              (try simp only [Act.put, List.setIfInBounds_toArray, List.set_cons_zero, List.set_cons_succ])
              refine wpAnyH_ready (rs := [9]) (by kernel_rfl) (by simp) ?_
              refine AllReadyH.cons (o := ⟨_, _, _, _, _, _⟩) rfl (fun K hK => ?_) AllReadyH.nil
              go_simp
              have pz11 := Pr.new u2 false none 0 0
              have az := bone u2 (.cells #[.bool false, .slice none 0 0] 24)
              have hz11 := hS.size
              have lt12_11 := pz12.lt
              replace hS := bthen hS az
              (replace j1 := j1.call az); (replace j2 := j2.call az); (replace j3 := j3.call az); (replace pz12 := pz12.call az)
              refine hK.out _ _ hS (fun _ => ?_)
              clear hK K az
              generalize hgz : u2.heap.size = gz11 at hz11 pz11 ⊢ lt12_11
              clear hgz
              generalize u2.alloc (.cells #[.bool false, .slice none 0 0] 24) = u2z11 at *
              (try simp only [Act.put, List.setIfInBounds_toArray, List.set_cons_zero, List.set_cons_succ])
              refine wpAnyH_ready (rs := [11]) (by kernel_rfl) (by simp) ?_
              refine AllReadyH.cons (o := ⟨_, _, _, _, _, _⟩) rfl (fun K hK => ?_) AllReadyH.nil
              obtain ⟨q0, q1, f0, f1, k0, k1⟩ := pz11.all (.bool t2) (.slice B2 m2 e2)
              go_simp
              replace hS := below_stored hS hz11 (.bool t2) (.slice B2 m2 e2)
              refine hK.out _ _ hS (fun _ => ?_)
              clear hK K q0 q1 f0 f1 k0 k1
              replace j1 := j1.stored pz11 (.bool t2) (.slice B2 m2 e2)
              replace j2 := j2.stored pz11 (.bool t2) (.slice B2 m2 e2)
              replace j3 := j3.stored pz11 (.bool t2) (.slice B2 m2 e2)
              replace pz12 := pz12.far (g' := gz11) (by omega) (.bool t2) (.slice B2 m2 e2)
              replace pz11 := pz11.stored (s' := t2) (A' := B2) (n' := m2) (c' := e2)
              (try simp only [Act.put, List.setIfInBounds_toArray, List.set_cons_zero, List.set_cons_succ])
              refine wpAnyH_ready (rs := [12]) (by kernel_rfl) (by simp) ?_
              refine AllReadyH.cons (o := ⟨_, _, _, _, _, _⟩) rfl (fun K hK => ?_) AllReadyH.nil
              obtain ⟨q0, q1, f0, f1, k0, k1⟩ := pz12.all (.bool t3) (.slice B3 m3 e3)
              go_simp
              replace hS := below_stored hS hz12 (.bool t3) (.slice B3 m3 e3)
              refine hK.out _ _ hS (fun _ => ?_)
              clear hK K q0 q1 f0 f1 k0 k1
              replace j1 := j1.stored pz12 (.bool t3) (.slice B3 m3 e3)
              replace j2 := j2.stored pz12 (.bool t3) (.slice B3 m3 e3)
              replace j3 := j3.stored pz12 (.bool t3) (.slice B3 m3 e3)
              replace pz11 := pz11.far (g' := gz12) (by omega) (.bool t3) (.slice B3 m3 e3)
              replace pz12 := pz12.stored (s' := t3) (A' := B3) (n' := m3) (c' := e3)
              (try simp only [Act.put, List.setIfInBounds_toArray, List.set_cons_zero, List.set_cons_succ])
              refine wpAnyH_take (i := 13) (oi := ⟨_, _, _, _, _, _⟩) (v := ?_) rfl (by kernel_rfl) (by kernel_rfl) (by kernel_rfl) (fun _ _ _ h => h) (Or.inl ⟨by rfl, ?_⟩) hS ?_
              rotate_left
              · intro w' hS'; (first | (go_simp; done) | (go_simp; with_reducible rfl) | with_reducible rfl)
              (try simp only [Act.put, List.setIfInBounds_toArray, List.set_cons_zero, List.set_cons_succ])
              refine wpAnyH_done (by kernel_rfl) ?_ _
              go_wp2_with fail
              go_meet
              case rel => rw [HF.out] at j2; exact ⟨_, _, _, _, _, _, _, _, _, _, _, rfl, rfl, pz11, pz12, j2, j3, hS, hz11, hz12, by omega⟩
            · go_simp
              have pz11 := Pr.new u1z12 false none 0 0
              have az := bone u1z12 (.cells #[.bool false, .slice none 0 0] 24)
              have hz11 := hS.size
              have lt12_11 := pz12.lt
              replace hS := bthen hS az
              (replace j1 := j1.call az); (replace pz12 := pz12.call az)
              refine hK.out _ _ hS (fun _ => ?_)
              clear hK K az
              generalize hgz : u1z12.heap.size = gz11 at hz11 pz11 ⊢ lt12_11
              clear hgz
              generalize u1z12.alloc (.cells #[.bool false, .slice none 0 0] 24) = u1z12z11 at *
              (try simp only [Act.put, List.setIfInBounds_toArray, List.set_cons_zero, List.set_cons_succ])
              refine wpAnyH_ready (rs := [4]) (by kernel_rfl) (by simp) ?_
              refine AllReadyH.cons (o := ⟨_, _, _, _, _, _⟩) rfl (fun K hK => ?_) AllReadyH.nil
              go_simp
              refine (divMod_any _ j1.any (i7.call hS).any (Nat.le_trans (j1.len HL.out) (by omega)) (by omega)).mono ?_
              rintro e u2 ⟨t2, B2, m2, e2, t3, B3, m3, e3, cd, rfl, j2, j3, -, d2⟩
              replace hS := bthen hS d2
              (replace j1 := j1.call d2); (replace pz12 := pz12.call d2); (replace pz11 := pz11.call d2)
              first | (with_reducible refine hK.out _ _ hS (fun _ => ?_)) | (go_wp2_with fail; with_reducible refine hK.out _ _ hS (fun _ => ?_))
              clear hK K
              (try simp only [Act.put, List.setIfInBounds_toArray, List.set_cons_zero, List.set_cons_succ])
              refine wpAnyH_take (i := 5) (oi := ⟨_, _, _, _, _, _⟩) (v := ?_) rfl (by kernel_rfl) (by kernel_rfl) (by kernel_rfl) (fun _ _ _ h => h) (Or.inl ⟨by rfl, ?_⟩) hS ?_
              rotate_left
              · intro w' hS'; (first | (go_simp; done) | (go_simp; with_reducible rfl) | with_reducible rfl)
              (try simp only [Act.put, List.setIfInBounds_toArray, List.set_cons_zero, List.set_cons_succ])
              refine wpAnyH_take (i := 6) (oi := ⟨_, _, _, _, _, _⟩) (v := ?_) rfl (by kernel_rfl) (by kernel_rfl) (by kernel_rfl) (fun _ _ _ h => h) (Or.inl ⟨by rfl, ?_⟩) hS ?_
              rotate_left
              · intro w' hS'; (first | (go_simp; done) | (go_simp; with_reducible rfl) | with_reducible rfl)
              (try simp only [Act.put, List.setIfInBounds_toArray, List.set_cons_zero, List.set_cons_succ])
              refine wpAnyH_take (i := 7) (oi := ⟨_, _, _, _, _, _⟩) (v := ?_) rfl (by kernel_rfl) (by kernel_rfl) (by kernel_rfl) (fun _ _ _ h => h) (Or.inl ⟨by rfl, ?_⟩) hS ?_
              rotate_left
              · intro w' hS'; (first | (go_simp; done) | (go_simp; with_reducible rfl) | with_reducible rfl)
              (try simp only [Act.put, List.setIfInBounds_toArray, List.set_cons_zero, List.set_cons_succ])
              refine wpAnyH_take (i := 8) (oi := ⟨_, _, _, _, _, _⟩) (v := ?_) rfl (by kernel_rfl) (by kernel_rfl) (by kernel_rfl) (fun _ _ _ h => h) (Or.inl ⟨by rfl, ?_⟩) hS ?_
              rotate_left
              · intro w' hS'; (first | (go_simp; done) | (go_simp; with_reducible rfl) | with_reducible rfl)
              (try simp only [Act.put, List.setIfInBounds_toArray, List.set_cons_zero, List.set_cons_succ])
              refine wpAnyH_ready (rs := [11]) (by kernel_rfl) (by simp) ?_
              refine AllReadyH.cons (o := ⟨_, _, _, _, _, _⟩) rfl (fun K hK => ?_) AllReadyH.nil
              obtain ⟨q0, q1, f0, f1, k0, k1⟩ := pz11.all (.bool t2) (.slice B2 m2 e2)
              go_simp
              replace hS := below_stored hS hz11 (.bool t2) (.slice B2 m2 e2)
              refine hK.out _ _ hS (fun _ => ?_)
              clear hK K q0 q1 f0 f1 k0 k1
              replace j1 := j1.stored pz11 (.bool t2) (.slice B2 m2 e2)
              replace j2 := j2.stored pz11 (.bool t2) (.slice B2 m2 e2)
              replace j3 := j3.stored pz11 (.bool t2) (.slice B2 m2 e2)
              replace pz12 := pz12.far (g' := gz11) (by omega) (.bool t2) (.slice B2 m2 e2)
              replace pz11 := pz11.stored (s' := t2) (A' := B2) (n' := m2) (c' := e2)
              (try simp only [Act.put, List.setIfInBounds_toArray, List.set_cons_zero, List.set_cons_succ])
              refine wpAnyH_ready (rs := [12]) (by kernel_rfl) (by simp) ?_
              refine AllReadyH.cons (o := ⟨_, _, _, _, _, _⟩) rfl (fun K hK => ?_) AllReadyH.nil
              obtain ⟨q0, q1, f0, f1, k0, k1⟩ := pz12.all (.bool t3) (.slice B3 m3 e3)
              go_simp
              replace hS := below_stored hS hz12 (.bool t3) (.slice B3 m3 e3)
              refine hK.out _ _ hS (fun _ => ?_)
              clear hK K q0 q1 f0 f1 k0 k1
              replace j1 := j1.stored pz12 (.bool t3) (.slice B3 m3 e3)
              replace j2 := j2.stored pz12 (.bool t3) (.slice B3 m3 e3)
              replace j3 := j3.stored pz12 (.bool t3) (.slice B3 m3 e3)
              replace pz11 := pz11.far (g' := gz12) (by omega) (.bool t3) (.slice B3 m3 e3)
              replace pz12 := pz12.stored (s' := t3) (A' := B3) (n' := m3) (c' := e3)
              (try simp only [Act.put, List.setIfInBounds_toArray, List.set_cons_zero, List.set_cons_succ])
              refine wpAnyH_take (i := 13) (oi := ⟨_, _, _, _, _, _⟩) (v := ?_) rfl (by kernel_rfl) (by kernel_rfl) (by kernel_rfl) (fun _ _ _ h => h) (Or.inl ⟨by rfl, ?_⟩) hS ?_
              rotate_left
              · intro w' hS'; (first | (go_simp; done) | (go_simp; with_reducible rfl) | with_reducible rfl)
              (try simp only [Act.put, List.setIfInBounds_toArray, List.set_cons_zero, List.set_cons_succ])
              refine wpAnyH_done (by kernel_rfl) ?_ _
              go_wp2_with fail
              go_meet
              case rel => rw [HF.out] at j2; exact ⟨_, _, _, _, _, _, _, _, _, _, _, rfl, rfl, pz11, pz12, j2, j3, hS, hz11, hz12, by omega⟩
        · go_simp
          have pz11 := Pr.new u0 false none 0 0
          have az := bone u0 (.cells #[.bool false, .slice none 0 0] 24)
          have hz11 := hS.size
          replace hS := bthen hS az
          refine hK.out _ _ hS (fun _ => ?_)
          clear hK K az
          generalize hgz : u0.heap.size = gz11 at hz11 pz11 ⊢
          clear hgz
          generalize u0.alloc (.cells #[.bool false, .slice none 0 0] 24) = u0z11 at *
          (try simp only [Act.put, List.setIfInBounds_toArray, List.set_cons_zero, List.set_cons_succ])
          refine wpAnyH_ready (rs := [2, 10]) (by kernel_rfl) (by simp) ?_
          refine AllReadyH.cons (o := ⟨_, _, _, _, _, _⟩) rfl (fun K hK => ?_) (AllReadyH.cons (o := ⟨_, _, _, _, _, _⟩) rfl (fun K hK => ?_) AllReadyH.nil)
          · go_simp
            refine (add_any _ (i6.call hS).any (i8.call hS).any (by omega) (by omega)).mono ?_
            rintro e u1 ⟨t1, B1, m1, e1, rfl, j1, d1⟩
            replace hS := bthen hS d1
            (replace pz11 := pz11.call d1)
            first | (with_reducible refine hK.out _ _ hS (fun _ => ?_)) | (go_wp2_with fail; with_reducible refine hK.out _ _ hS (fun _ => ?_))
            clear hK K
            (try simp only [Act.put, List.setIfInBounds_toArray, List.set_cons_zero, List.set_cons_succ])
            refine wpAnyH_ready (rs := [4, 10]) (by kernel_rfl) (by simp) ?_
            refine AllReadyH.cons (o := ⟨_, _, _, _, _, _⟩) rfl (fun K hK => ?_) (AllReadyH.cons (o := ⟨_, _, _, _, _, _⟩) rfl (fun K hK => ?_) AllReadyH.nil)
            · go_simp
              refine (divMod_any _ j1.any (i7.call hS).any (Nat.le_trans (j1.len HL.out) (by omega)) (by omega)).mono ?_
              rintro e u2 ⟨t2, B2, m2, e2, t3, B3, m3, e3, cd, rfl, j2, j3, -, d2⟩
              replace hS := bthen hS d2
              (replace j1 := j1.call d2); (replace pz11 := pz11.call d2)
              first | (with_reducible refine hK.out _ _ hS (fun _ => ?_)) | (go_wp2_with fail; with_reducible refine hK.out _ _ hS (fun _ => ?_))
              clear hK K
              (try simp only [Act.put, List.setIfInBounds_toArray, List.set_cons_zero, List.set_cons_succ])
              refine wpAnyH_take (i := 5) (oi := ⟨_, _, _, _, _, _⟩) (v := ?_) rfl (by kernel_rfl) (by kernel_rfl) (by kernel_rfl) (fun _ _ _ h => h) (Or.inl ⟨by rfl, ?_⟩) hS ?_
              rotate_left
              · intro w' hS'; (first | (go_simp; done) | (go_simp; with_reducible rfl) | with_reducible rfl)
              (try simp only [Act.put, List.setIfInBounds_toArray, List.set_cons_zero, List.set_cons_succ])
              refine wpAnyH_take (i := 6) (oi := ⟨_, _, _, _, _, _⟩) (v := ?_) rfl (by kernel_rfl) (by kernel_rfl) (by kernel_rfl) (fun _ _ _ h => h) (Or.inl ⟨by rfl, ?_⟩) hS ?_
              rotate_left
              · intro w' hS'; (first | (go_simp; done) | (go_simp; with_reducible rfl) | with_reducible rfl)
              (try simp only [Act.put, List.setIfInBounds_toArray, List.set_cons_zero, List.set_cons_succ])
              refine wpAnyH_take (i := 7) (oi := ⟨_, _, _, _, _, _⟩) (v := ?_) rfl (by kernel_rfl) (by kernel_rfl) (by kernel_rfl) (fun _ _ _ h => h) (Or.inl ⟨by rfl, ?_⟩) hS ?_
              rotate_left
              · intro w' hS'; (first | (go_simp; done) | (go_simp; with_reducible rfl) | with_reducible rfl)
              (try simp only [Act.put, List.setIfInBounds_toArray, List.set_cons_zero, List.set_cons_succ])
              refine wpAnyH_take (i := 8) (oi := ⟨_, _, _, _, _, _⟩) (v := ?_) rfl (by kernel_rfl) (by kernel_rfl) (by kernel_rfl) (fun _ _ _ h => h) (Or.inl ⟨by rfl, ?_⟩) hS ?_
              rotate_left
              · intro w' hS'; (first | (go_simp; done) | (go_simp; with_reducible rfl) | with_reducible rfl)
              (try simp only [Act.put, List.setIfInBounds_toArray, List.set_cons_zero, List.set_cons_succ])
              refine wpAnyH_ready (rs := [10]) (by kernel_rfl) (by simp) ?_
              refine AllReadyH.cons (o := ⟨_, _, _, _, _, _⟩) rfl (fun K hK => ?_) AllReadyH.nil
              go_simp
              have pz12 := Pr.new u2 false none 0 0
              have az := bone u2 (.cells #[.bool false, .slice none 0 0] 24)
              have hz12 := hS.size
              have lt11_12 := pz11.lt
              replace hS := bthen hS az
              (replace j1 := j1.call az); (replace j2 := j2.call az); (replace j3 := j3.call az); (replace pz11 := pz11.call az)
              refine hK.out _ _ hS (fun _ => ?_)
              clear hK K az
              generalize hgz : u2.heap.size = gz12 at hz12 pz12 ⊢ lt11_12
              clear hgz
              generalize u2.alloc (.cells #[.bool false, .slice none 0 0] 24) = u2z12 at *
              (try simp only [Act.put, List.setIfInBounds_toArray, List.set_cons_zero, List.set_cons_succ])
              refine wpAnyH_ready (rs := [11]) (by kernel_rfl) (by simp) ?_
              refine AllReadyH.cons (o := ⟨_, _, _, _, _, _⟩) rfl (fun K hK => ?_) AllReadyH.nil
              obtain ⟨q0, q1, f0, f1, k0, k1⟩ := pz11.all (.bool t2) (.slice B2 m2 e2)
              go_simp
              replace hS := below_stored hS hz11 (.bool t2) (.slice B2 m2 e2)
              refine hK.out _ _ hS (fun _ => ?_)
              clear hK K q0 q1 f0 f1 k0 k1
              replace j1 := j1.stored pz11 (.bool t2) (.slice B2 m2 e2)
              replace j2 := j2.stored pz11 (.bool t2) (.slice B2 m2 e2)
              replace j3 := j3.stored pz11 (.bool t2) (.slice B2 m2 e2)
              replace pz12 := pz12.far (g' := gz11) (by omega) (.bool t2) (.slice B2 m2 e2)
              replace pz11 := pz11.stored (s' := t2) (A' := B2) (n' := m2) (c' := e2)
              (try simp only [Act.put, List.setIfInBounds_toArray, List.set_cons_zero, List.set_cons_succ])
              refine wpAnyH_ready (rs := [12]) (by kernel_rfl) (by simp) ?_
              refine AllReadyH.cons (o := ⟨_, _, _, _, _, _⟩) rfl (fun K hK => ?_) AllReadyH.nil
              obtain ⟨q0, q1, f0, f1, k0, k1⟩ := pz12.all (.bool t3) (.slice B3 m3 e3)
              go_simp
              replace hS := below_stored hS hz12 (.bool t3) (.slice B3 m3 e3)
              refine hK.out _ _ hS (fun _ => ?_)
              clear hK K q0 q1 f0 f1 k0 k1
              replace j1 := j1.stored pz12 (.bool t3) (.slice B3 m3 e3)
              replace j2 := j2.stored pz12 (.bool t3) (.slice B3 m3 e3)
              replace j3 := j3.stored pz12 (.bool t3) (.slice B3 m3 e3)
              replace pz11 := pz11.far (g' := gz12) (by omega) (.bool t3) (.slice B3 m3 e3)
              replace pz12 := pz12.stored (s' := t3) (A' := B3) (n' := m3) (c' := e3)
              (try simp only [Act.put, List.setIfInBounds_toArray, List.set_cons_zero, List.set_cons_succ])
              refine wpAnyH_take (i := 13) (oi := ⟨_, _, _, _, _, _⟩) (v := ?_) rfl (by kernel_rfl) (by kernel_rfl) (by kernel_rfl) (fun _ _ _ h => h) (Or.inl ⟨by rfl, ?_⟩) hS ?_
              rotate_left
              · intro w' hS'; (first | (go_simp; done) | (go_simp; with_reducible rfl) | with_reducible rfl)
              (try simp only [Act.put, List.setIfInBounds_toArray, List.set_cons_zero, List.set_cons_succ])
              refine wpAnyH_done (by kernel_rfl) ?_ _
              go_wp2_with fail
              go_meet
              case rel => rw [HF.out] at j2; exact ⟨_, _, _, _, _, _, _, _, _, _, _, rfl, rfl, pz11, pz12, j2, j3, hS, hz11, hz12, by omega⟩
            · go_simp
              have pz12 := Pr.new u1 false none 0 0
              have az := bone u1 (.cells #[.bool false, .slice none 0 0] 24)
              have hz12 := hS.size
              have lt11_12 := pz11.lt
              replace hS := bthen hS az
              (replace j1 := j1.call az); (replace pz11 := pz11.call az)
              refine hK.out _ _ hS (fun _ => ?_)
              clear hK K az
              generalize hgz : u1.heap.size = gz12 at hz12 pz12 ⊢ lt11_12
              clear hgz
              generalize u1.alloc (.cells #[.bool false, .slice none 0 0] 24) = u1z12 at *
              (try simp only [Act.put, List.setIfInBounds_toArray, List.set_cons_zero, List.set_cons_succ])
              refine wpAnyH_ready (rs := [4]) (by kernel_rfl) (by simp) ?_
              refine AllReadyH.cons (o := ⟨_, _, _, _, _, _⟩) rfl (fun K hK => ?_) AllReadyH.nil
              go_simp
              refine (divMod_any _ j1.any (i7.call hS).any (Nat.le_trans (j1.len HL.out) (by omega)) (by omega)).mono ?_
              rintro e u2 ⟨t2, B2, m2, e2, t3, B3, m3, e3, cd, rfl, j2, j3, -, d2⟩
              replace hS := bthen hS d2
              (replace j1 := j1.call d2); (replace pz11 := pz11.call d2); (replace pz12 := pz12.call d2)
              first | (with_reducible refine hK.out _ _ hS (fun _ => ?_)) | (go_wp2_with fail; with_reducible refine hK.out _ _ hS (fun _ => ?_))
              clear hK K
              (try simp only [Act.put, List.setIfInBounds_toArray, List.set_cons_zero, List.set_cons_succ])
              refine wpAnyH_take (i := 5) (oi := ⟨_, _, _, _, _, _⟩) (v := ?_) rfl (by kernel_rfl) (by kernel_rfl) (by kernel_rfl) (fun _ _ _ h => h) (Or.inl ⟨by rfl, ?_⟩) hS ?_
              rotate_left
              · intro w' hS'; (first | (go_simp; done) | (go_simp; with_reducible rfl) | with_reducible rfl)
              (try simp only [Act.put, List.setIfInBounds_toArray, List.set_cons_zero, List.set_cons_succ])
              refine wpAnyH_take (i := 6) (oi := ⟨_, _, _, _, _, _⟩) (v := ?_) rfl (by kernel_rfl) (by kernel_rfl) (by kernel_rfl) (fun _ _ _ h => h) (Or.inl ⟨by rfl, ?_⟩) hS ?_
              rotate_left
              · intro w' hS'; (first | (go_simp; done) | (go_simp; with_reducible rfl) | with_reducible rfl)
              (try simp only [Act.put, List.setIfInBounds_toArray, List.set_cons_zero, List.set_cons_succ])
              refine wpAnyH_take (i := 7) (oi := ⟨_, _, _, _, _, _⟩) (v := ?_) rfl (by kernel_rfl) (by kernel_rfl) (by kernel_rfl) (fun _ _ _ h => h) (Or.inl ⟨by rfl, ?_⟩) hS ?_
              rotate_left
              · intro w' hS'; (first | (go_simp; done) | (go_simp; with_reducible rfl) | with_reducible rfl)
              (try simp only [Act.put, List.setIfInBounds_toArray, List.set_cons_zero, List.set_cons_succ])
              refine wpAnyH_take (i := 8) (oi := ⟨_, _, _, _, _, _⟩) (v := ?_) rfl (by kernel_rfl) (by kernel_rfl) (by kernel_rfl) (fun _ _ _ h => h) (Or.inl ⟨by rfl, ?_⟩) hS ?_
              rotate_left
              · intro w' hS'; (first | (go_simp; done) | (go_simp; with_reducible rfl) | with_reducible rfl)
              (try simp only [Act.put, List.setIfInBounds_toArray, List.set_cons_zero, List.set_cons_succ])
              refine wpAnyH_ready (rs := [11]) (by kernel_rfl) (by simp) ?_
              refine AllReadyH.cons (o := ⟨_, _, _, _, _, _⟩) rfl (fun K hK => ?_) AllReadyH.nil
              obtain ⟨q0, q1, f0, f1, k0, k1⟩ := pz11.all (.bool t2) (.slice B2 m2 e2)
              go_simp
              replace hS := below_stored hS hz11 (.bool t2) (.slice B2 m2 e2)
              refine hK.out _ _ hS (fun _ => ?_)
              clear hK K q0 q1 f0 f1 k0 k1
              replace j1 := j1.stored pz11 (.bool t2) (.slice B2 m2 e2)
              replace j2 := j2.stored pz11 (.bool t2) (.slice B2 m2 e2)
              replace j3 := j3.stored pz11 (.bool t2) (.slice B2 m2 e2)
              replace pz12 := pz12.far (g' := gz11) (by omega) (.bool t2) (.slice B2 m2 e2)
              replace pz11 := pz11.stored (s' := t2) (A' := B2) (n' := m2) (c' := e2)
              (try simp only [Act.put, List.setIfInBounds_toArray, List.set_cons_zero, List.set_cons_succ])
              refine wpAnyH_ready (rs := [12]) (by kernel_rfl) (by simp) ?_
              refine AllReadyH.cons (o := ⟨_, _, _, _, _, _⟩) rfl (fun K hK => ?_) AllReadyH.nil
              obtain ⟨q0, q1, f0, f1, k0, k1⟩ := pz12.all (.bool t3) (.slice B3 m3 e3)
              go_simp
              replace hS := below_stored hS hz12 (.bool t3) (.slice B3 m3 e3)
              refine hK.out _ _ hS (fun _ => ?_)
              clear hK K q0 q1 f0 f1 k0 k1
              replace j1 := j1.stored pz12 (.bool t3) (.slice B3 m3 e3)
              replace j2 := j2.stored pz12 (.bool t3) (.slice B3 m3 e3)
              replace j3 := j3.stored pz12 (.bool t3) (.slice B3 m3 e3)
              replace pz11 := pz11.far (g' := gz12) (by omega) (.bool t3) (.slice B3 m3 e3)
              replace pz12 := pz12.stored (s' := t3) (A' := B3) (n' := m3) (c' := e3)
              (try simp only [Act.put, List.setIfInBounds_toArray, List.set_cons_zero, List.set_cons_succ])
              refine wpAnyH_take (i := 13) (oi := ⟨_, _, _, _, _, _⟩) (v := ?_) rfl (by kernel_rfl) (by kernel_rfl) (by kernel_rfl) (fun _ _ _ h => h) (Or.inl ⟨by rfl, ?_⟩) hS ?_
              rotate_left
              · intro w' hS'; (first | (go_simp; done) | (go_simp; with_reducible rfl) | with_reducible rfl)
              (try simp only [Act.put, List.setIfInBounds_toArray, List.set_cons_zero, List.set_cons_succ])
              refine wpAnyH_done (by kernel_rfl) ?_ _
              go_wp2_with fail
              go_meet
              case rel => rw [HF.out] at j2; exact ⟨_, _, _, _, _, _, _, _, _, _, _, rfl, rfl, pz11, pz12, j2, j3, hS, hz11, hz12, by omega⟩
          · go_simp
            have pz12 := Pr.new u0z11 false none 0 0
            have az := bone u0z11 (.cells #[.bool false, .slice none 0 0] 24)
            have hz12 := hS.size
            have lt11_12 := pz11.lt
            replace hS := bthen hS az
            (replace pz11 := pz11.call az)
            refine hK.out _ _ hS (fun _ => ?_)
            clear hK K az
            generalize hgz : u0z11.heap.size = gz12 at hz12 pz12 ⊢ lt11_12
            clear hgz
            generalize u0z11.alloc (.cells #[.bool false, .slice none 0 0] 24) = u0z11z12 at *
            (try simp only [Act.put, List.setIfInBounds_toArray, List.set_cons_zero, List.set_cons_succ])
            refine wpAnyH_ready (rs := [2]) (by kernel_rfl) (by simp) ?_
            refine AllReadyH.cons (o := ⟨_, _, _, _, _, _⟩) rfl (fun K hK => ?_) AllReadyH.nil
            go_simp
            refine (add_any _ (i6.call hS).any (i8.call hS).any (by omega) (by omega)).mono ?_
            rintro e u1 ⟨t1, B1, m1, e1, rfl, j1, d1⟩
            replace hS := bthen hS d1
            (replace pz11 := pz11.call d1); (replace pz12 := pz12.call d1)
            first | (with_reducible refine hK.out _ _ hS (fun _ => ?_)) | (go_wp2_with fail; with_reducible refine hK.out _ _ hS (fun _ => ?_))
            clear hK K
            (try simp only [Act.put, List.setIfInBounds_toArray, List.set_cons_zero, List.set_cons_succ])
            refine wpAnyH_ready (rs := [4]) (by kernel_rfl) (by simp) ?_
            refine AllReadyH.cons (o := ⟨_, _, _, _, _, _⟩) rfl (fun K hK => ?_) AllReadyH.nil
            go_simp
            refine (divMod_any _ j1.any (i7.call hS).any (Nat.le_trans (j1.len HL.out) (by omega)) (by omega)).mono ?_
            rintro e u2 ⟨t2, B2, m2, e2, t3, B3, m3, e3, cd, rfl, j2, j3, -, d2⟩
            replace hS := bthen hS d2
            (replace j1 := j1.call d2); (replace pz11 := pz11.call d2); (replace pz12 := pz12.call d2)
            first | (with_reducible refine hK.out _ _ hS (fun _ => ?_)) | (go_wp2_with fail; with_reducible refine hK.out _ _ hS (fun _ => ?_))
            clear hK K
            (try simp only [Act.put, List.setIfInBounds_toArray, List.set_cons_zero, List.set_cons_succ])
            refine wpAnyH_take (i := 5) (oi := ⟨_, _, _, _, _, _⟩) (v := ?_) rfl (by kernel_rfl) (by kernel_rfl) (by kernel_rfl) (fun _ _ _ h => h) (Or.inl ⟨by rfl, ?_⟩) hS ?_
            rotate_left
            · intro w' hS'; (first | (go_simp; done) | (go_simp; with_reducible rfl) | with_reducible rfl)
            (try simp only [Act.put, List.setIfInBounds_toArray, List.set_cons_zero, List.set_cons_succ])
            refine wpAnyH_take (i := 6) (oi := ⟨_, _, _, _, _, _⟩) (v := ?_) rfl (by kernel_rfl) (by kernel_rfl) (by kernel_rfl) (fun _ _ _ h => h) (Or.inl ⟨by rfl, ?_⟩) hS ?_
            rotate_left
            · intro w' hS'; (first | (go_simp; done) | (go_simp; with_reducible rfl) | with_reducible rfl)
            (try simp only [Act.put, List.setIfInBounds_toArray, List.set_cons_zero, List.set_cons_succ])
            refine wpAnyH_take (i := 7) (oi := ⟨_, _, _, _, _, _⟩) (v := ?_) rfl (by kernel_rfl) (by kernel_rfl) (by kernel_rfl) (fun _ _ _ h => h) (Or.inl ⟨by rfl, ?_⟩) hS ?_
            rotate_left
            · intro w' hS'; (first | (go_simp; done) | (go_simp; with_reducible rfl) | with_reducible rfl)
            (try simp only [Act.put, List.setIfInBounds_toArray, List.set_cons_zero, List.set_cons_succ])
            refine wpAnyH_take (i := 8) (oi := ⟨_, _, _, _, _, _⟩) (v := ?_) rfl (by kernel_rfl) (by kernel_rfl) (by kernel_rfl) (fun _ _ _ h => h) (Or.inl ⟨by rfl, ?_⟩) hS ?_
            rotate_left
            · intro w' hS'; (first | (go_simp; done) | (go_simp; with_reducible rfl) | with_reducible rfl)
            (try simp only [Act.put, List.setIfInBounds_toArray, List.set_cons_zero, List.set_cons_succ])
            refine wpAnyH_ready (rs := [11]) (by kernel_rfl) (by simp) ?_
            refine AllReadyH.cons (o := ⟨_, _, _, _, _, _⟩) rfl (fun K hK => ?_) AllReadyH.nil
            obtain ⟨q0, q1, f0, f1, k0, k1⟩ := pz11.all (.bool t2) (.slice B2 m2 e2)
            go_simp
            replace hS := below_stored hS hz11 (.bool t2) (.slice B2 m2 e2)
            refine hK.out _ _ hS (fun _ => ?_)
            clear hK K q0 q1 f0 f1 k0 k1
            replace j1 := j1.stored pz11 (.bool t2) (.slice B2 m2 e2)
            replace j2 := j2.stored pz11 (.bool t2) (.slice B2 m2 e2)
            replace j3 := j3.stored pz11 (.bool t2) (.slice B2 m2 e2)
            replace pz12 := pz12.far (g' := gz11) (by omega) (.bool t2) (.slice B2 m2 e2)
            replace pz11 := pz11.stored (s' := t2) (A' := B2) (n' := m2) (c' := e2)
            (try simp only [Act.put, List.setIfInBounds_toArray, List.set_cons_zero, List.set_cons_succ])
            refine wpAnyH_ready (rs := [12]) (by kernel_rfl) (by simp) ?_
            refine AllReadyH.cons (o := ⟨_, _, _, _, _, _⟩) rfl (fun K hK => ?_) AllReadyH.nil
            obtain ⟨q0, q1, f0, f1, k0, k1⟩ := pz12.all (.bool t3) (.slice B3 m3 e3)
            go_simp
            replace hS := below_stored hS hz12 (.bool t3) (.slice B3 m3 e3)
            refine hK.out _ _ hS (fun _ => ?_)
            clear hK K q0 q1 f0 f1 k0 k1
            replace j1 := j1.stored pz12 (.bool t3) (.slice B3 m3 e3)
            replace j2 := j2.stored pz12 (.bool t3) (.slice B3 m3 e3)
            replace j3 := j3.stored pz12 (.bool t3) (.slice B3 m3 e3)
            replace pz11 := pz11.far (g' := gz12) (by omega) (.bool t3) (.slice B3 m3 e3)
            replace pz12 := pz12.stored (s' := t3) (A' := B3) (n' := m3) (c' := e3)
            (try simp only [Act.put, List.setIfInBounds_toArray, List.set_cons_zero, List.set_cons_succ])
            refine wpAnyH_take (i := 13) (oi := ⟨_, _, _, _, _, _⟩) (v := ?_) rfl (by kernel_rfl) (by kernel_rfl) (by kernel_rfl) (fun _ _ _ h => h) (Or.inl ⟨by rfl, ?_⟩) hS ?_
            rotate_left
            · intro w' hS'; (first | (go_simp; done) | (go_simp; with_reducible rfl) | with_reducible rfl)
            (try simp only [Act.put, List.setIfInBounds_toArray, List.set_cons_zero, List.set_cons_succ])
            refine wpAnyH_done (by kernel_rfl) ?_ _
            go_wp2_with fail
            go_meet
            case rel => rw [HF.out] at j2; exact ⟨_, _, _, _, _, _, _, _, _, _, _, rfl, rfl, pz11, pz12, j2, j3, hS, hz11, hz12, by omega⟩
        · go_simp
          have pz12 := Pr.new u0 false none 0 0
          have az := bone u0 (.cells #[.bool false, .slice none 0 0] 24)
          have hz12 := hS.size
          replace hS := bthen hS az
          refine hK.out _ _ hS (fun _ => ?_)
          clear hK K az
          generalize hgz : u0.heap.size = gz12 at hz12 pz12 ⊢
          clear hgz
          generalize u0.alloc (.cells #[.bool false, .slice none 0 0] 24) = u0z12 at *
          (try simp only [Act.put, List.setIfInBounds_toArray, List.set_cons_zero, List.set_cons_succ])
          refine wpAnyH_ready (rs := [2, 9]) (by kernel_rfl) (by simp) ?_
          refine AllReadyH.cons (o := ⟨_, _, _, _, _, _⟩) rfl (fun K hK => ?_) (AllReadyH.cons (o := ⟨_, _, _, _, _, _⟩) rfl (fun K hK => ?_) AllReadyH.nil)
          · go_simp
            refine (add_any _ (i6.call hS).any (i8.call hS).any (by omega) (by omega)).mono ?_
            rintro e u1 ⟨t1, B1, m1, e1, rfl, j1, d1⟩
            replace hS := bthen hS d1
            (replace pz12 := pz12.call d1)
            first | (with_reducible refine hK.out _ _ hS (fun _ => ?_)) | (go_wp2_with fail; with_reducible refine hK.out _ _ hS (fun _ => ?_))
            clear hK K
            (try simp only [Act.put, List.setIfInBounds_toArray, List.set_cons_zero, List.set_cons_succ])
            refine wpAnyH_ready (rs := [4, 9]) (by kernel_rfl) (by simp) ?_
            refine AllReadyH.cons (o := ⟨_, _, _, _, _, _⟩) rfl (fun K hK => ?_) (AllReadyH.cons (o := ⟨_, _, _, _, _, _⟩) rfl (fun K hK => ?_) AllReadyH.nil)
            · go_simp
              refine (divMod_any _ j1.any (i7.call hS).any (Nat.le_trans (j1.len HL.out) (by omega)) (by omega)).mono ?_
              rintro e u2 ⟨t2, B2, m2, e2, t3, B3, m3, e3, cd, rfl, j2, j3, -, d2⟩
              replace hS := bthen hS d2
              (replace j1 := j1.call d2); (replace pz12 := pz12.call d2)
              first | (with_reducible refine hK.out _ _ hS (fun _ => ?_)) | (go_wp2_with fail; with_reducible refine hK.out _ _ hS (fun _ => ?_))
              clear hK K
              (try simp only [Act.put, List.setIfInBounds_toArray, List.set_cons_zero, List.set_cons_succ])
              refine wpAnyH_take (i := 5) (oi := ⟨_, _, _, _, _, _⟩) (v := ?_) rfl (by kernel_rfl) (by kernel_rfl) (by kernel_rfl) (fun _ _ _ h => h) (Or.inl ⟨by rfl, ?_⟩) hS ?_
              rotate_left
              · intro w' hS'; (first | (go_simp; done) | (go_simp; with_reducible rfl) | with_reducible rfl)
              (try simp only [Act.put, List.setIfInBounds_toArray, List.set_cons_zero, List.set_cons_succ])
              refine wpAnyH_take (i := 6) (oi := ⟨_, _, _, _, _, _⟩) (v := ?_) rfl (by kernel_rfl) (by kernel_rfl) (by kernel_rfl) (fun _ _ _ h => h) (Or.inl ⟨by rfl, ?_⟩) hS ?_
              rotate_left
              · intro w' hS'; (first | (go_simp; done) | (go_simp; with_reducible rfl) | with_reducible rfl)
              (try simp only [Act.put, List.setIfInBounds_toArray, List.set_cons_zero, List.set_cons_succ])
              refine wpAnyH_take (i := 7) (oi := ⟨_, _, _, _, _, _⟩) (v := ?_) rfl (by kernel_rfl) (by kernel_rfl) (by kernel_rfl) (fun _ _ _ h => h) (Or.inl ⟨by rfl, ?_⟩) hS ?_
              rotate_left
              · intro w' hS'; (first | (go_simp; done) | (go_simp; with_reducible rfl) | with_reducible rfl)
              (try simp only [Act.put, List.setIfInBounds_toArray, List.set_cons_zero, List.set_cons_succ])
              refine wpAnyH_take (i := 8) (oi := ⟨_, _, _, _, _, _⟩) (v := ?_) rfl (by kernel_rfl) (by kernel_rfl) (by kernel_rfl) (fun _ _ _ h => h) (Or.inl ⟨by rfl, ?_⟩) hS ?_
              rotate_left
              · intro w' hS'; (first | (go_simp; done) | (go_simp; with_reducible rfl) | with_reducible rfl)
              (try simp only [Act.put, List.setIfInBounds_toArray, List.set_cons_zero, List.set_cons_succ])
              refine wpAnyH_ready (rs := [9]) (by kernel_rfl) (by simp) ?_
              refine AllReadyH.cons (o := ⟨_, _, _, _, _, _⟩) rfl (fun K hK => ?_) AllReadyH.nil
              go_simp
              have pz11 := Pr.new u2 false none 0 0
              have az := bone u2 (.cells #[.bool false, .slice none 0 0] 24)
              have hz11 := hS.size
              have lt12_11 := pz12.lt
              replace hS := bthen hS az
              (replace j1 := j1.call az); (replace j2 := j2.call az); (replace j3 := j3.call az); (replace pz12 := pz12.call az)
              refine hK.out _ _ hS (fun _ => ?_)
              clear hK K az
              generalize hgz : u2.heap.size = gz11 at hz11 pz11 ⊢ lt12_11
              clear hgz
              generalize u2.alloc (.cells #[.bool false, .slice none 0 0] 24) = u2z11 at *
              (try simp only [Act.put, List.setIfInBounds_toArray, List.set_cons_zero, List.set_cons_succ])
              refine wpAnyH_ready (rs := [11]) (by kernel_rfl) (by simp) ?_
              refine AllReadyH.cons (o := ⟨_, _, _, _, _, _⟩) rfl (fun K hK => ?_) AllReadyH.nil
              obtain ⟨q0, q1, f0, f1, k0, k1⟩ := pz11.all (.bool t2) (.slice B2 m2 e2)
              go_simp
              replace hS := below_stored hS hz11 (.bool t2) (.slice B2 m2 e2)
              refine hK.out _ _ hS (fun _ => ?_)
              clear hK K q0 q1 f0 f1 k0 k1
              replace j1 := j1.stored pz11 (.bool t2) (.slice B2 m2 e2)
              replace j2 := j2.stored pz11 (.bool t2) (.slice B2 m2 e2)
              replace j3 := j3.stored pz11 (.bool t2) (.slice B2 m2 e2)
              replace pz12 := pz12.far (g' := gz11) (by omega) (.bool t2) (.slice B2 m2 e2)
              replace pz11 := pz11.stored (s' := t2) (A' := B2) (n' := m2) (c' := e2)
              (try simp only [Act.put, List.setIfInBounds_toArray, List.set_cons_zero, List.set_cons_succ])
              refine wpAnyH_ready (rs := [12]) (by kernel_rfl) (by simp) ?_
              refine AllReadyH.cons (o := ⟨_, _, _, _, _, _⟩) rfl (fun K hK => ?_) AllReadyH.nil
              obtain ⟨q0, q1, f0, f1, k0, k1⟩ := pz12.all (.bool t3) (.slice B3 m3 e3)
              go_simp
              replace hS := below_stored hS hz12 (.bool t3) (.slice B3 m3 e3)
              refine hK.out _ _ hS (fun _ => ?_)
              clear hK K q0 q1 f0 f1 k0 k1
              replace j1 := j1.stored pz12 (.bool t3) (.slice B3 m3 e3)
              replace j2 := j2.stored pz12 (.bool t3) (.slice B3 m3 e3)
              replace j3 := j3.stored pz12 (.bool t3) (.slice B3 m3 e3)
              replace pz11 := pz11.far (g' := gz12) (by omega) (.bool t3) (.slice B3 m3 e3)
              replace pz12 := pz12.stored (s' := t3) (A' := B3) (n' := m3) (c' := e3)
              (try simp only [Act.put, List.setIfInBounds_toArray, List.set_cons_zero, List.set_cons_succ])
              refine wpAnyH_take (i := 13) (oi := ⟨_, _, _, _, _, _⟩) (v := ?_) rfl (by kernel_rfl) (by kernel_rfl) (by kernel_rfl) (fun _ _ _ h => h) (Or.inl ⟨by rfl, ?_⟩) hS ?_
              rotate_left
              · intro w' hS'; (first | (go_simp; done) | (go_simp; with_reducible rfl) | with_reducible rfl)
              (try simp only [Act.put, List.setIfInBounds_toArray, List.set_cons_zero, List.set_cons_succ])
              refine wpAnyH_done (by kernel_rfl) ?_ _
              go_wp2_with fail
              go_meet
              case rel => rw [HF.out] at j2; exact ⟨_, _, _, _, _, _, _, _, _, _, _, rfl, rfl, pz11, pz12, j2, j3, hS, hz11, hz12, by omega⟩
            · go_simp
              have pz11 := Pr.new u1 false none 0 0
              have az := bone u1 (.cells #[.bool false, .slice none 0 0] 24)
              have hz11 := hS.size
              have lt12_11 := pz12.lt
              replace hS := bthen hS az
              (replace j1 := j1.call az); (replace pz12 := pz12.call az)
              refine hK.out _ _ hS (fun _ => ?_)
              clear hK K az
              generalize hgz : u1.heap.size = gz11 at hz11 pz11 ⊢ lt12_11
              clear hgz
              generalize u1.alloc (.cells #[.bool false, .slice none 0 0] 24) = u1z11 at *
              (try simp only [Act.put, List.setIfInBounds_toArray, List.set_cons_zero, List.set_cons_succ])
              refine wpAnyH_ready (rs := [4]) (by kernel_rfl) (by simp) ?_
              refine AllReadyH.cons (o := ⟨_, _, _, _, _, _⟩) rfl (fun K hK => ?_) AllReadyH.nil
              go_simp
              refine (divMod_any _ j1.any (i7.call hS).any (Nat.le_trans (j1.len HL.out) (by omega)) (by omega)).mono ?_
              rintro e u2 ⟨t2, B2, m2, e2, t3, B3, m3, e3, cd, rfl, j2, j3, -, d2⟩
              replace hS := bthen hS d2
              (replace j1 := j1.call d2); (replace pz12 := pz12.call d2); (replace pz11 := pz11.call d2)
              first | (with_reducible refine hK.out _ _ hS (fun _ => ?_)) | (go_wp2_with fail; with_reducible refine hK.out _ _ hS (fun _ => ?_))
              clear hK K
              (try simp only [Act.put, List.setIfInBounds_toArray, List.set_cons_zero, List.set_cons_succ])
              refine wpAnyH_take (i := 5) (oi := ⟨_, _, _, _, _, _⟩) (v := ?_) rfl (by kernel_rfl) (by kernel_rfl) (by kernel_rfl) (fun _ _ _ h => h) (Or.inl ⟨by rfl, ?_⟩) hS ?_
              rotate_left
              · intro w' hS'; (first | (go_simp; done) | (go_simp; with_reducible rfl) | with_reducible rfl)
              (try simp only [Act.put, List.setIfInBounds_toArray, List.set_cons_zero, List.set_cons_succ])
              refine wpAnyH_take (i := 6) (oi := ⟨_, _, _, _, _, _⟩) (v := ?_) rfl (by kernel_rfl) (by kernel_rfl) (by kernel_rfl) (fun _ _ _ h => h) (Or.inl ⟨by rfl, ?_⟩) hS ?_
              rotate_left
              · intro w' hS'; (first | (go_simp; done) | (go_simp; with_reducible rfl) | with_reducible rfl)
              (try simp only [Act.put, List.setIfInBounds_toArray, List.set_cons_zero, List.set_cons_succ])
              refine wpAnyH_take (i := 7) (oi := ⟨_, _, _, _, _, _⟩) (v := ?_) rfl (by kernel_rfl) (by kernel_rfl) (by kernel_rfl) (fun _ _ _ h => h) (Or.inl ⟨by rfl, ?_⟩) hS ?_
              rotate_left
              · intro w' hS'; (first | (go_simp; done) | (go_simp; with_reducible rfl) | with_reducible rfl)
              (try simp only [Act.put, List.setIfInBounds_toArray, List.set_cons_zero, List.set_cons_succ])
              refine wpAnyH_take (i := 8) (oi := ⟨_, _, _, _, _, _⟩) (v := ?_) rfl (by kernel_rfl) (by kernel_rfl) (by kernel_rfl) (fun _ _ _ h => h) (Or.inl ⟨by rfl, ?_⟩) hS ?_
              rotate_left
              · intro w' hS'; (first | (go_simp; done) | (go_simp; with_reducible rfl) | with_reducible rfl)
              (try simp only [Act.put, List.setIfInBounds_toArray, List.set_cons_zero, List.set_cons_succ])
              refine wpAnyH_ready (rs := [11]) (by kernel_rfl) (by simp) ?_
              refine AllReadyH.cons (o := ⟨_, _, _, _, _, _⟩) rfl (fun K hK => ?_) AllReadyH.nil
              obtain ⟨q0, q1, f0, f1, k0, k1⟩ := pz11.all (.bool t2) (.slice B2 m2 e2)
              go_simp
              replace hS := below_stored hS hz11 (.bool t2) (.slice B2 m2 e2)
              refine hK.out _ _ hS (fun _ => ?_)
              clear hK K q0 q1 f0 f1 k0 k1
              replace j1 := j1.stored pz11 (.bool t2) (.slice B2 m2 e2)
              replace j2 := j2.stored pz11 (.bool t2) (.slice B2 m2 e2)
              replace j3 := j3.stored pz11 (.bool t2) (.slice B2 m2 e2)
              replace pz12 := pz12.far (g' := gz11) (by omega) (.bool t2) (.slice B2 m2 e2)
              replace pz11 := pz11.stored (s' := t2) (A' := B2) (n' := m2) (c' := e2)
              (try simp only [Act.put, List.setIfInBounds_toArray, List.set_cons_zero, List.set_cons_succ])
              refine wpAnyH_ready (rs := [12]) (by kernel_rfl) (by simp) ?_
              refine AllReadyH.cons (o := ⟨_, _, _, _, _, _⟩) rfl (fun K hK => ?_) AllReadyH.nil
              obtain ⟨q0, q1, f0, f1, k0, k1⟩ := pz12.all (.bool t3) (.slice B3 m3 e3)
              go_simp
              replace hS := below_stored hS hz12 (.bool t3) (.slice B3 m3 e3)
              refine hK.out _ _ hS (fun _ => ?_)
              clear hK K q0 q1 f0 f1 k0 k1
              replace j1 := j1.stored pz12 (.bool t3) (.slice B3 m3 e3)
              replace j2 := j2.stored pz12 (.bool t3) (.slice B3 m3 e3)
              replace j3 := j3.stored pz12 (.bool t3) (.slice B3 m3 e3)
              replace pz11 := pz11.far (g' := gz12) (by omega) (.bool t3) (.slice B3 m3 e3)
              replace pz12 := pz12.stored (s' := t3) (A' := B3) (n' := m3) (c' := e3)
              (try simp only [Act.put, List.setIfInBounds_toArray, List.set_cons_zero, List.set_cons_succ])
              refine wpAnyH_take (i := 13) (oi := ⟨_, _, _, _, _, _⟩) (v := ?_) rfl (by kernel_rfl) (by kernel_rfl) (by kernel_rfl) (fun _ _ _ h => h) (Or.inl ⟨by rfl, ?_⟩) hS ?_
              rotate_left
              · intro w' hS'; (first | (go_simp; done) | (go_simp; with_reducible rfl) | with_reducible rfl)
              (try simp only [Act.put, List.setIfInBounds_toArray, List.set_cons_zero, List.set_cons_succ])
              refine wpAnyH_done (by kernel_rfl) ?_ _
              go_wp2_with fail
              go_meet
              case rel => rw [HF.out] at j2; exact ⟨_, _, _, _, _, _, _, _, _, _, _, rfl, rfl, pz11, pz12, j2, j3, hS, hz11, hz12, by omega⟩
          · go_simp
            have pz11 := Pr.new u0z12 false none 0 0
            have az := bone u0z12 (.cells #[.bool false, .slice none 0 0] 24)
            have hz11 := hS.size
            have lt12_11 := pz12.lt
            replace hS := bthen hS az
            (replace pz12 := pz12.call az)
            refine hK.out _ _ hS (fun _ => ?_)
            clear hK K az
            generalize hgz : u0z12.heap.size = gz11 at hz11 pz11 ⊢ lt12_11
            clear hgz
            generalize u0z12.alloc (.cells #[.bool false, .slice none 0 0] 24) = u0z12z11 at *
            (try simp only [Act.put, List.setIfInBounds_toArray, List.set_cons_zero, List.set_cons_succ])
            refine wpAnyH_ready (rs := [2]) (by kernel_rfl) (by simp) ?_
            refine AllReadyH.cons (o := ⟨_, _, _, _, _, _⟩) rfl (fun K hK => ?_) AllReadyH.nil
            go_simp
            refine (add_any _ (i6.call hS).any (i8.call hS).any (by omega) (by omega)).mono ?_
            rintro e u1 ⟨t1, B1, m1, e1, rfl, j1, d1⟩
            replace hS := bthen hS d1
            (replace pz12 := pz12.call d1); (replace pz11 := pz11.call d1)
            first | (with_reducible refine hK.out _ _ hS (fun _ => ?_)) | (go_wp2_with fail; with_reducible refine hK.out _ _ hS (fun _ => ?_))
            clear hK K
            (try simp only [Act.put, List.setIfInBounds_toArray, List.set_cons_zero, List.set_cons_succ])
            refine wpAnyH_ready (rs := [4]) (by kernel_rfl) (by simp) ?_
            refine AllReadyH.cons (o := ⟨_, _, _, _, _, _⟩) rfl (fun K hK => ?_) AllReadyH.nil
            go_simp
            refine (divMod_any _ j1.any (i7.call hS).any (Nat.le_trans (j1.len HL.out) (by omega)) (by omega)).mono ?_
            rintro e u2 ⟨t2, B2, m2, e2, t3, B3, m3, e3, cd, rfl, j2, j3, -, d2⟩
            replace hS := bthen hS d2
            (replace j1 := j1.call d2); (replace pz12 := pz12.call d2); (replace pz11 := pz11.call d2)
            first | (with_reducible refine hK.out _ _ hS (fun _ => ?_)) | (go_wp2_with fail; with_reducible refine hK.out _ _ hS (fun _ => ?_))
            clear hK K
            (try simp only [Act.put, List.setIfInBounds_toArray, List.set_cons_zero, List.set_cons_succ])
            refine wpAnyH_take (i := 5) (oi := ⟨_, _, _, _, _, _⟩) (v := ?_) rfl (by kernel_rfl) (by kernel_rfl) (by kernel_rfl) (fun _ _ _ h => h) (Or.inl ⟨by rfl, ?_⟩) hS ?_
            rotate_left
            · intro w' hS'; (first | (go_simp; done) | (go_simp; with_reducible rfl) | with_reducible rfl)
            (try simp only [Act.put, List.setIfInBounds_toArray, List.set_cons_zero, List.set_cons_succ])
            refine wpAnyH_take (i := 6) (oi := ⟨_, _, _, _, _, _⟩) (v := ?_) rfl (by kernel_rfl) (by kernel_rfl) (by kernel_rfl) (fun _ _ _ h => h) (Or.inl ⟨by rfl, ?_⟩) hS ?_
            rotate_left
            · intro w' hS'; (first | (go_simp; done) | (go_simp; with_reducible rfl) | with_reducible rfl)
            (try simp only [Act.put, List.setIfInBounds_toArray, List.set_cons_zero, List.set_cons_succ])
            refine wpAnyH_take (i := 7) (oi := ⟨_, _, _, _, _, _⟩) (v := ?_) rfl (by kernel_rfl) (by kernel_rfl) (by kernel_rfl) (fun _ _ _ h => h) (Or.inl ⟨by rfl, ?_⟩) hS ?_
            rotate_left
            · intro w' hS'; (first | (go_simp; done) | (go_simp; with_reducible rfl) | with_reducible rfl)
            (try simp only [Act.put, List.setIfInBounds_toArray, List.set_cons_zero, List.set_cons_succ])
            refine wpAnyH_take (i := 8) (oi := ⟨_, _, _, _, _, _⟩) (v := ?_) rfl (by kernel_rfl) (by kernel_rfl) (by kernel_rfl) (fun _ _ _ h => h) (Or.inl ⟨by rfl, ?_⟩) hS ?_
            rotate_left
            · intro w' hS'; (first | (go_simp; done) | (go_simp; with_reducible rfl) | with_reducible rfl)
            (try simp only [Act.put, List.setIfInBounds_toArray, List.set_cons_zero, List.set_cons_succ])
            refine wpAnyH_ready (rs := [11]) (by kernel_rfl) (by simp) ?_
            refine AllReadyH.cons (o := ⟨_, _, _, _, _, _⟩) rfl (fun K hK => ?_) AllReadyH.nil
            obtain ⟨q0, q1, f0, f1, k0, k1⟩ := pz11.all (.bool t2) (.slice B2 m2 e2)
            go_simp
            replace hS := below_stored hS hz11 (.bool t2) (.slice B2 m2 e2)
            refine hK.out _ _ hS (fun _ => ?_)
            clear hK K q0 q1 f0 f1 k0 k1
            replace j1 := j1.stored pz11 (.bool t2) (.slice B2 m2 e2)
            replace j2 := j2.stored pz11 (.bool t2) (.slice B2 m2 e2)
            replace j3 := j3.stored pz11 (.bool t2) (.slice B2 m2 e2)
            replace pz12 := pz12.far (g' := gz11) (by omega) (.bool t2) (.slice B2 m2 e2)
            replace pz11 := pz11.stored (s' := t2) (A' := B2) (n' := m2) (c' := e2)
            (try simp only [Act.put, List.setIfInBounds_toArray, List.set_cons_zero, List.set_cons_succ])
            refine wpAnyH_ready (rs := [12]) (by kernel_rfl) (by simp) ?_
            refine AllReadyH.cons (o := ⟨_, _, _, _, _, _⟩) rfl (fun K hK => ?_) AllReadyH.nil
            obtain ⟨q0, q1, f0, f1, k0, k1⟩ := pz12.all (.bool t3) (.slice B3 m3 e3)
            go_simp
            replace hS := below_stored hS hz12 (.bool t3) (.slice B3 m3 e3)
            refine hK.out _ _ hS (fun _ => ?_)
            clear hK K q0 q1 f0 f1 k0 k1
            replace j1 := j1.stored pz12 (.bool t3) (.slice B3 m3 e3)
            replace j2 := j2.stored pz12 (.bool t3) (.slice B3 m3 e3)
            replace j3 := j3.stored pz12 (.bool t3) (.slice B3 m3 e3)
            replace pz11 := pz11.far (g' := gz12) (by omega) (.bool t3) (.slice B3 m3 e3)
            replace pz12 := pz12.stored (s' := t3) (A' := B3) (n' := m3) (c' := e3)
            (try simp only [Act.put, List.setIfInBounds_toArray, List.set_cons_zero, List.set_cons_succ])
            refine wpAnyH_take (i := 13) (oi := ⟨_, _, _, _, _, _⟩) (v := ?_) rfl (by kernel_rfl) (by kernel_rfl) (by kernel_rfl) (fun _ _ _ h => h) (Or.inl ⟨by rfl, ?_⟩) hS ?_
            rotate_left
            · intro w' hS'; (first | (go_simp; done) | (go_simp; with_reducible rfl) | with_reducible rfl)
            (try simp only [Act.put, List.setIfInBounds_toArray, List.set_cons_zero, List.set_cons_succ])
            refine wpAnyH_done (by kernel_rfl) ?_ _
            go_wp2_with fail
            go_meet
            case rel => rw [HF.out] at j2; exact ⟨_, _, _, _, _, _, _, _, _, _, _, rfl, rfl, pz11, pz12, j2, j3, hS, hz11, hz12, by omega⟩
      case rest =>
        obtain ⟨rm, g11, s11, A11, n11, c11, g12, s12, A12, n12, c12, rfl, rfl, p11, p12, i11, i12, d11, hg11, hg12, hgne⟩ := hcut
        obtain ⟨X11, rfl⟩ : ∃ X : World, X = wc := ⟨_, rfl⟩
        have z10 := p6.lt
        (replace p6 := p6.call d11); (replace i6 := i6.call d11); (replace p7 := p7.call d11); (replace i7 := i7.call d11); (replace pa := pa.call d11); (replace ha := ha.call d11); (replace pr := pr.call d11)
        replace bR := bthen bR d11
        have l11 := i11.len LN.out
        clear d11 p12 i12 p8 i8 HF HL LN
        rcases Nat.lt_trichotomy nx y with hc | hc | hc
        · have HC := Lib.hid (compare_is (-1) X11 i11.any i6.any (by omega) (by omega) (cmpz_lt (by omega)))
          obtain ⟨a0, a1, b0, b1⟩ := p11.cells p6
          go_wp2_with fail
          refine HC.out.mono ?_
          rintro e X12 ⟨rfl, d12⟩
          (replace p6 := p6.call d12); (replace i11 := i11.call d12); (replace p7 := p7.call d12); (replace i7 := i7.call d12); (replace pa := pa.call d12); (replace ha := ha.call d12); (replace pr := pr.call d12); (replace p11 := p11.call d12)
          replace bR := bthen bR d12
          clear a0 a1 b0 b1 HC
          obtain ⟨a0, a1⟩ := p11.cells1
          obtain ⟨q0, q1, f0, f1, k0, k1⟩ := p6.all (.bool s11) (.slice A11 n11 c11)
          have bY := below_stored bR (g := g6) (by omega) (.bool s11) (.slice A11 n11 c11)
          have jY := i11.stored p6 (.bool s11) (.slice A11 n11 c11)
          have iY := i7.stored p6 (.bool s11) (.slice A11 n11 c11)
          have hY := ha.stored p6 (.bool s11) (.slice A11 n11 c11)
          have p7Y := p7.far (g' := g6) (by omega) (.bool s11) (.slice A11 n11 c11)
          have paY := pa.far (g' := g6) (by omega) (.bool s11) (.slice A11 n11 c11)
          have prY := pr.far (g' := g6) (by omega) (.bool s11) (.slice A11 n11 c11)
          have p6Y := p6.stored (s' := s11) (A' := A11) (n' := n11) (c' := c11)
          go_wp2_with fail
          go_roundg nx
          case rel => exact ⟨_, _, _, _, _, _, _, _, p6Y, jY, p7Y, iY, paY, hY, prY, bY, hnx, by omega, HG.out⟩
          case measure => omega
        · have HC := Lib.hid (compare_is (0) X11 i11.any i6.any (by omega) (by omega) (cmpz_eq (by omega)))
          obtain ⟨a0, a1, b0, b1⟩ := p11.cells p6
          go_wp2_with fail
          refine HC.out.mono ?_
          rintro e X12 ⟨rfl, d12⟩
          (replace p6 := p6.call d12); (replace i6 := i6.call d12); (replace pr := pr.call d12)
          replace bR := bthen bR d12
          clear a0 a1 b0 b1 HC
          obtain ⟨a0, a1⟩ := p6.cells1
          obtain ⟨q0, q1, f0, f1, k0, k1⟩ := pr.all (.bool s6) (.slice A6 n6 c6)
          have fin : RetSq w (a : Int) (.returned (.tuple #[.agg #[.bool s6, .slice A6 n6 c6], .int .i64 0])) ((X12.setCell ⟨w.heap.size + 1, 0, none⟩ (.bool s6)).setCell ⟨w.heap.size + 1, 1, none⟩ (.slice A6 n6 c6)) :=
            ⟨y, 0, ⟨_, _, _, _, rfl, i6.stored pr _ _, below_stored bR (by omega) _ _⟩, .inr ⟨by omega, rfl, y, a, rfl, rfl, HEN.out (by omega), by rcases Nat.lt_or_ge a ((y + 1) * (y + 1)) with h | h; exact h; have := HQ.out _ h; omega⟩⟩
          have F := Lib.hid fin
          clear fin
          go_wp2
          refine bodyPost_ret (v := .tuple #[.agg #[.bool s6, .slice A6 n6 c6], .int .i64 0]) (by simp [results, Tryd.results42, go_sem, k0, k1]) rfl ?_
          exact F.out
        · have HC := Lib.hid (compare_is (1) X11 i11.any i6.any (by omega) (by omega) (cmpz_gt (by omega)))
          obtain ⟨a0, a1, b0, b1⟩ := p11.cells p6
          go_wp2_with fail
          refine HC.out.mono ?_
          rintro e X12 ⟨rfl, d12⟩
          (replace p6 := p6.call d12); (replace i6 := i6.call d12); (replace pr := pr.call d12)
          replace bR := bthen bR d12
          clear a0 a1 b0 b1 HC
          obtain ⟨a0, a1⟩ := p6.cells1
          obtain ⟨q0, q1, f0, f1, k0, k1⟩ := pr.all (.bool s6) (.slice A6 n6 c6)
          have fin : RetSq w (a : Int) (.returned (.tuple #[.agg #[.bool s6, .slice A6 n6 c6], .int .i64 0])) ((X12.setCell ⟨w.heap.size + 1, 0, none⟩ (.bool s6)).setCell ⟨w.heap.size + 1, 1, none⟩ (.slice A6 n6 c6)) :=
            ⟨y, 0, ⟨_, _, _, _, rfl, i6.stored pr _ _, below_stored bR (by omega) _ _⟩, .inr ⟨by omega, rfl, y, a, rfl, rfl, HEN.out (by omega), by rcases Nat.lt_or_ge a ((y + 1) * (y + 1)) with h | h; exact h; have := HQ.out _ h; omega⟩⟩
          have F := Lib.hid fin
          clear fin
          go_wp2
          refine bodyPost_ret (v := .tuple #[.agg #[.bool s6, .slice A6 n6 c6], .int .i64 0]) (by simp [results, Tryd.results42, go_sem, k0, k1]) rfl ?_
          exact F.out
end Go.Proofs.YteicjbinginamaaDoor
