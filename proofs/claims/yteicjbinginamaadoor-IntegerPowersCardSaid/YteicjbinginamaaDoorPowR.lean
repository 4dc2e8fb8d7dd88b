/- Walks of Pow of the reference and of BitLen of both. -/
import Derived.Test.YteicjbinginamaaDoorPow
namespace Go.Proofs.YteicjbinginamaaDoor
open Go.RowKit
set_option linter.unusedVariables false

set_option maxHeartbeats 2000000 in
set_option maxRecDepth 100000 in
theorem refPow_bad {s : Bool} {A : Option Addr} {n c : Nat} {k : Int} (w : World) (hk : k < 0 ∨ 64 < k) :
    Calls Tryd.prog 41 #[.agg #[.bool s, .slice A n c], .int .i64 k] w (RetIE w 0 5) := by
  obtain ⟨W, hW, bW, pa, pr⟩ := boxes1 w s A n c
  obtain ⟨q0, q1, f0, f1, k0, k1⟩ := pr.all (.bool false) (.slice none 0 0)
  have fin : ∀ h : True, RetIE w 0 5 (.returned (.tuple #[.agg #[.bool false, .slice none 0 0], .int .i64 5])) ((W.setCell ⟨w.heap.size + 1, 0, none⟩ (.bool false)).setCell ⟨w.heap.size + 1, 1, none⟩ (.slice none 0 0)) :=
    fun _ => ⟨_, _, _, _, rfl, CInt.zero _, below_stored bW (by omega) _ _⟩
  have F := Lib.hid (fin trivial)
  clear fin
  by_cases h0 : k < 0
  · have hd : decide (k < 0) = true := by simp; omega
    go_enter Tryd.func41, Tryd.ntmps41
    go_upto_region 1 with (fail)
    rw [← hW]
    clear hW
    go_wp2
    refine bodyPost_ret (v := .tuple #[.agg #[.bool false, .slice none 0 0], .int .i64 5]) (by simp [results, Tryd.results41, go_sem, k0, k1]) rfl ?_
    exact F.out
  · have hd : decide (k < 0) = false := by simp; omega
    have hd2 : decide ((64 : Int) < k) = true := by simp; omega
    go_enter Tryd.func41, Tryd.ntmps41
    go_upto_region 1 with (fail)
    rw [← hW]
    clear hW
    go_wp2
    refine bodyPost_ret (v := .tuple #[.agg #[.bool false, .slice none 0 0], .int .i64 5]) (by simp [results, Tryd.results41, go_sem, k0, k1]) rfl ?_
    exact F.out

/-- the state of the loop of the reference's Pow -/
def PowR (w wr : World) (g6 : Nat) (s : Bool) (A : Option Addr) (n c : Nat) (x : Int) (j : Nat) : Prop :=
  ∃ t A' n' c', Pr wr g6 t A' n' c' ∧ CInt wr t A' n' c' (x ^ j) ∧ Pr wr w.heap.size s A n c ∧ AInt wr s A n c x ∧ Pr wr (w.heap.size + 1) false none 0 0 ∧ Below w.heap.size w wr

set_option maxHeartbeats 4000000 in
set_option maxRecDepth 100000 in
theorem refPow_any {s : Bool} {A : Option Addr} {n c : Nat} {x : Int} {k : Nat} (w : World) (ha : AInt w s A n c x) (hn : n ≤ 1048576) (hk : k ≤ 64) :
    Calls Tryd.prog 41 #[.agg #[.bool s, .slice A n c], .int .i64 k] w (RetIE w (x ^ k) 0) := by
  have lx : Lim 1048576 x := ha.lim.mono hn
  have lpow : ∀ r, r ≤ 64 → Lim 67108865 (x ^ r) := fun r hr => (lx.pow r).mono (by have : 1048576 * r ≤ 1048576 * 64 := Nat.mul_le_mul_left _ hr; omega)
  have LP := Lib.hid lpow
  obtain ⟨W, hW, bW, pa, pr⟩ := boxes1 w s A n c
  have H1 := Lib.hid (refFromInt64_any 1 W (by omega) (by omega))
  have hd : decide ((k : Int) < 0) = false := by simp
  have hd2 : decide ((64 : Int) < (k : Int)) = false := by simp; omega
  replace ha := ha.call bW
  clear lx lpow
  go_enter Tryd.func41, Tryd.ntmps41
  go_upto_region 1 with (fail)
  rw [← hW]
  clear hW
  go_wp2_with fail
  refine H1.out.mono ?_
  rintro e X1 ⟨s1, A1, n1, c1, rfl, i1, d1⟩
  obtain ⟨X2, hX2⟩ : ∃ X2, X2 = X1.alloc (.cells #[.bool s1, .slice A1 n1 c1] 24) := ⟨_, rfl⟩
  have d2 : Below X1.heap.size X1 X2 := by rw [hX2]; exact bone _ _
  have p6 : Pr X2 X1.heap.size s1 A1 n1 c1 := by rw [hX2]; exact Pr.new _ _ _ _ _
  have lt6 := d1.size
  have sz := pr.lt
  (replace pa := pa.call d1); (replace pr := pr.call d1); (replace ha := ha.call d1)
  (replace pa := pa.call d2); (replace pr := pr.call d2); (replace i1 := i1.call d2); (replace ha := ha.call d2)
  replace bW := bthen (bthen bW d1) d2
  clear H1 d1 d2
  go_upto_region 4 with (fail)
  rw [← hX2]
  clear hX2
  generalize X1.heap.size = g6 at *
  have HE : Hid (PowR w X2 g6 s A n c x 0) := ⟨_, _, _, _, p6, by rw [Int.pow_zero]; exact i1, pa, ha, pr, bW⟩
  clear p6 i1 pa ha pr bW hd hd2
  go_wp2_with fail
  go_loopg [7] k (fun q iv wx => ∃ j, j + q = k ∧ iv = .int .i64 (j : Nat) ∧ Hid (PowR w wx g6 s A n c x j))
  case atStart => exact ⟨0, by omega, rfl, HE⟩
  case round =>
    clear HE
    obtain ⟨j, hj, rfl, HP⟩ := hrel
    obtain ⟨s6, A6, n6, c6, p6, i6, pa, ha, pr, bR⟩ := HP.out
    clear HP
    by_cases h0 : gk = 0
    · have HJ : Hid (j = k) := by unfold Hid; omega
      have hlt : decide ((j : Int) < (k : Int)) = false := by simp; omega
      have hlt' : decide (j < k) = false := by simp; omega
      obtain ⟨a0, a1⟩ := p6.cells1
      obtain ⟨q0, q1, f0, f1, k0, k1⟩ := pr.all (.bool s6) (.slice A6 n6 c6)
      have fin : RetIE w (x ^ k) 0 (.returned (.tuple #[.agg #[.bool s6, .slice A6 n6 c6], .int .i64 0])) ((wr.setCell ⟨w.heap.size + 1, 0, none⟩ (.bool s6)).setCell ⟨w.heap.size + 1, 1, none⟩ (.slice A6 n6 c6)) :=
        ⟨_, _, _, _, rfl, by rw [← HJ.out]; exact i6.stored pr _ _, below_stored bR (by omega) _ _⟩
      have F := Lib.hid fin
      clear fin hj h0
      go_wp2
      refine bodyPost_ret (v := .tuple #[.agg #[.bool s6, .slice A6 n6 c6], .int .i64 0]) (by simp [results, Tryd.results41, go_sem, k0, k1]) rfl ?_
      exact F.out
    · have hlt : j < k := by omega
      have l6 := i6.len (LP.out j (by omega))
      have HM := Lib.hid (refMul_any wr i6.any ha (by omega) (by omega))
      rw [← Int.pow_succ] at HM
      obtain ⟨a0, a1, b0, b1⟩ := p6.cells pa
      go_wp2_with fail
      refine HM.out.mono ?_
      rintro e X5 ⟨s5, A5, n5, c5, rfl, j5, d5⟩
      have p6' := p6.call d5
      obtain ⟨q0, q1, f0, f1, k0, k1⟩ := p6'.all (.bool s5) (.slice A5 n5 c5)
      have bX := below_stored (bthen bR d5) (g := g6) (by omega) (.bool s5) (.slice A5 n5 c5)
      have jX := j5.stored p6' (.bool s5) (.slice A5 n5 c5)
      have hX := (ha.call d5).stored p6' (.bool s5) (.slice A5 n5 c5)
      have paX := (pa.call d5).far (g' := g6) (by omega) (.bool s5) (.slice A5 n5 c5)
      have prX := (pr.call d5).far (g' := g6) (by omega) (.bool s5) (.slice A5 n5 c5)
      have p6X := p6'.stored (s' := s5) (A' := A5) (n' := n5) (c' := c5)
      clear HM a0 a1 b0 b1
      go_wp2_with fail
      go_roundg (gk - 1)
      case rel => exact ⟨j + 1, by omega, by go_num, ⟨_, _, _, _, p6X, jX, paX, hX, prX, bX⟩⟩
      case measure => omega

set_option maxRecDepth 100000 in
theorem refBitLenI_any {s : Bool} {A : Option Addr} {n c : Nat} {x : Int} (w : World) (ha : AInt w s A n c x) (hn : n ≤ 1099511627776) :
    Calls Tryd.prog 45 #[.agg #[.bool s, .slice A n c]] w (RetV w (.int .i64 (blen x.natAbs : Nat))) := by
  obtain ⟨ds, h1, h2, h3, h4, rfl⟩ := ha
  rw [sgn_natAbs]
  obtain ⟨W, hW⟩ : ∃ W, W = w.alloc (.cells #[.bool s, .slice A n c] 24) := ⟨_, rfl⟩
  have bW : Below w.heap.size w W := by rw [hW]; exact bone w _
  have pa : Pr W w.heap.size s A n c := by rw [hW]; exact Pr.new w s A n c
  have a0 := pa.cell0
  have a1 := pa.cell1
  have HC := Lib.hid (refBitLen_any W (h1.call bW) h2 h3 h4 hn)
  generalize blen (val ds) = z at *
  go_enter Tryd.func45, Tryd.ntmps45
  go_wp2_with fail
  rw [← hW]
  clear hW
  refine HC.out.mono ?_
  rintro e w5 ⟨rfl, rfl⟩
  go_wp2
  go_ret
  exact ⟨rfl, bW⟩

set_option maxRecDepth 100000 in
theorem bitLen_any {s : Bool} {A : Option Addr} {n c : Nat} {x : Int} (w : World) (ha : AInt w s A n c x) (hn : n ≤ 1099511627776) :
    Calls Tryd.prog 44 #[.agg #[.bool s, .slice A n c]] w (RetV w (.int .i64 (blen x.natAbs : Nat))) := by
  obtain ⟨m, hm, r, HA⟩ := ha.still
  clear ha
  generalize x.natAbs = v at *
  obtain ⟨W, hW⟩ : ∃ W, W = w.alloc (.cells #[.bool s, .slice A n c] 24) := ⟨_, rfl⟩
  have bW : Below w.heap.size w W := by rw [hW]; exact bone w _
  have pa : Pr W w.heap.size s A n c := by rw [hW]; exact Pr.new w s A n c
  have a0 := pa.cell0
  have a1 := pa.cell1
  have r1 := r.call bW
  have km : m = 0 ↔ v = 0 := by rw [← r.len]; exact digits_nil_iff v
  go_enter Tryd.func44, Tryd.ntmps44
  go_wp2_with fail
  rw [← hW]
  clear hW
  refine (HA.out _ bW).mono ?_
  rintro e w5 ⟨rfl, rfl⟩
  by_cases h0 : m = 0
  · obtain rfl := km.1 h0
    subst h0
    go_wp2
    go_ret
    exact ⟨rfl, bW⟩
  · have hne : ((m : Int) == 0) = false := by simp; omega
    have HB := Lib.hid (blen_top (fun h => h0 (km.2 h)) r.len)
    obtain ⟨b, off, rfl, _, hcell⟩ := r1.at_ (j := m - 1) (by omega)
    have htl := (digits_w32 v).getD (m - 1)
    generalize (digits v).getD (m - 1) 0 = top at *
    have i1 : (0 : Int) ≤ (m : Int) - 1 := by omega
    have i2 : (m : Int) - 1 < (m : Int) := by omega
    have i3 : ((m : Int) - 1).toNat = m - 1 := by omega
    have hbt : blen top ≤ 32 := blen_le (k := 32) htl
    have HLEN := Lib.hid (fun W => len32_any top W htl)
    generalize blen top = bt at *
    clear km
    go_wp2_with fail
    refine (HLEN.out _).mono ?_
    rintro e w6 ⟨rfl, rfl⟩
    go_wp2
    go_ret
    exact ⟨ret_i64 (by have := HB.out; omega), bW⟩
end Go.Proofs.YteicjbinginamaaDoor
