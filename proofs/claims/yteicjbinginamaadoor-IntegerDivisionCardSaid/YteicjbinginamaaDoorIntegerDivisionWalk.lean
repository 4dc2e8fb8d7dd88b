/- Walk of IntegerDivision. -/
import Derived.Test.YteicjbinginamaaDoorRefH
namespace Go.Proofs.YteicjbinginamaaDoor
open Go.RowKit
set_option linter.unusedVariables false

set_option maxHeartbeats 2000000 in
set_option maxRecDepth 100000 in
theorem law_IntegerDivision {s t : Bool} {A A' : Option Addr} {n n' c c' : Nat} {x y : Int} (w : World) (ha : AInt w s A n c x) (hn : n ≤ 35184372087808) (hb : AInt w t A' n' c' y) (hn' : n' ≤ 35184372087808) (ht : Tab w) :
    Calls Tryd.prog 3 #[.agg #[.bool s, .slice A n c], .agg #[.bool t, .slice A' n' c']] w (RetV w (.bool true)) := by
  obtain ⟨W, hW, bW, pa, pb⟩ := boxes2' w s t A A' n n' c c'
  have a0 := pa.cell0
  have a1 := pa.cell1
  have b0 := pb.cell0
  have b1 := pb.cell1
  have HL := Lib.hid (light2 (s := s) (t := t) (A := A) (A' := A') (n := n) (n' := n') (c := c) (c' := c') W hn hn')
  have hsz : W.heap.size = w.heap.size + 1 + 1 := by rw [hW]; simp
  obtain ⟨W2, hW2⟩ : ∃ W2, W2 = W.alloc (.cells #[.bool s, .slice A n c, .bool t, .slice A' n' c'] 24) := ⟨_, rfl⟩
  have b2 : Below W.heap.size W W2 := by rw [hW2]; exact bone _ _
  rw [← hW2, hsz] at HL
  go_enter Tryd.func3, Tryd.ntmps3
  go_wp2_with fail
  rw [← hW]
  go_wp2_with fail
  rw [← hW2]
  refine HL.out.mono ?_
  rintro e X ⟨rfl, b3⟩
  replace b2 := bthen b2 b3
  (replace pa := pa.call b2); (replace pb := pb.call b2)
  replace bW := bthen bW b2
  (replace ha := ha.call bW); (replace hb := hb.call bW); (replace ht := ht.call bW)
  clear HL b3 b2 hW hW2 hsz a0 a1 b0 b1
  by_cases hl : n + n' ≤ 60
  case neg =>
    have hd : decide (n + n' ≤ 60) = false := by simp; omega
    have H2 := Lib.hid (awake_any X ht)
    go_wp2_with fail
    refine H2.out.mono ?_
    rintro e X2 ⟨rfl, b5⟩
    go_wp2
    go_ret
    exact ⟨rfl, bthen bW b5⟩
  case pos =>
    have hd : decide (n + n' ≤ 60) = true := by simp; omega
    have hn6 : n ≤ 60 := by omega
    have hn6' : n' ≤ 60 := by omega
    have lx := ha.lim.mono hn6
    have ly := hb.lim.mono hn6'
    obtain ⟨a0, a1, b0, b1⟩ := pa.cells pb
    have H1 := Lib.hid (divMod_any X ha hb (by omega) (by omega))
    go_wp2_with fail
    refine H1.out.mono ?_
    rintro e X1 ⟨s1, A1, n1, c1, s2, A2, n2, c2, code, rfl, i1, i2, hcode, d1⟩
    have HCO := Lib.hid hcode
    obtain ⟨X2, hX2, d2, p5, p6⟩ := boxes2' X1 s1 s2 A1 A2 n1 n2 c1 c2
    clear H1 a0 a1 b0 b1 hcode
    (replace pa := pa.call d1); (replace pb := pb.call d1); (replace ha := ha.call d1); (replace hb := hb.call d1); (replace ht := ht.call d1)
    (replace pa := pa.call d2); (replace pb := pb.call d2); (replace ha := ha.call d2); (replace hb := hb.call d2); (replace ht := ht.call d2); (replace i1 := i1.call d2); (replace i2 := i2.call d2)
    replace bW := bthen (bthen bW d1) d2
    obtain ⟨a0, a1, b0, b1⟩ := pa.cells pb
    have H2 := Lib.hid (refDivMod_any X2 ha hb (by omega) (by omega))
    go_upto_region 4 with (fail)
    rw [← hX2]
    clear hX2 d1 d2
    go_wp2_with fail
    refine H2.out.mono ?_
    rintro e X3 ⟨s3, A3, n3, c3, s4, A4, n4, c4, code', rfl, i3, i4, hcode, d3⟩
    have HE : Hid (code' = code) := by unfold Hid; rw [hcode, HCO.out]
    have he := HE.out
    subst he
    obtain ⟨X4, hX4, d4, p8, p9⟩ := boxes2' X3 s3 s4 A3 A4 n3 n4 c3 c4
    clear H2 a0 a1 b0 b1 hcode HE HCO
    (replace p5 := p5.call d3); (replace p6 := p6.call d3); (replace i1 := i1.call d3); (replace i2 := i2.call d3); (replace ht := ht.call d3)
    (replace p5 := p5.call d4); (replace p6 := p6.call d4); (replace i1 := i1.call d4); (replace i2 := i2.call d4); (replace i3 := i3.call d4); (replace i4 := i4.call d4); (replace ht := ht.call d4)
    replace bW := bthen (bthen bW d3) d4
    clear d3 d4
    obtain ⟨a0, a1, b0, b1⟩ := p5.cells p6
    obtain ⟨e0, e1, g0, g1⟩ := p8.cells p9
    have H3 := Lib.hid (same_true X4 i1 i3 rfl)
    go_upto_region 5 with (fail)
    rw [← hX4]
    clear hX4
    go_wp2_with fail
    refine H3.out.mono ?_
    rintro e X5 ⟨rfl, d5⟩
    clear H3 a0 a1 b0 b1 e0 e1 g0 g1
    (replace p6 := p6.call d5); (replace p9 := p9.call d5); (replace i2 := i2.call d5); (replace i4 := i4.call d5); (replace ht := ht.call d5)
    replace bW := bthen bW d5
    clear d5
    obtain ⟨a0, a1, b0, b1⟩ := p6.cells p9
    have H4 := Lib.hid (same_true X5 i2 i4 rfl)
    go_wp2_with fail
    refine H4.out.mono ?_
    rintro e X6 ⟨rfl, d6⟩
    have H5 := Lib.hid (awake_any X6 (ht.call d6))
    go_wp2_with fail
    refine H5.out.mono ?_
    rintro e X7 ⟨rfl, d7⟩
    go_wp2
    go_ret
    exact ⟨rfl, bthen (bthen bW d6) d7⟩
end Go.Proofs.YteicjbinginamaaDoor
