/- Walk of ExtendedGCD of the program. -/
import Derived.Test.YteicjbinginamaaDoorInverse
import Derived.Test.YteicjbinginamaaDoorGcd
namespace Go.Proofs.YteicjbinginamaaDoor
open Go.RowKit
set_option linter.unusedVariables false

/-- three integers -/
def RetEx (w : World) (x y z : Int) (e : Ending) (w' : World) : Prop :=
  ∃ s1 A1 n1 c1 s2 A2 n2 c2 s3 A3 n3 c3, e = .returned (.tuple #[.agg #[.bool s1, .slice A1 n1 c1], .agg #[.bool s2, .slice A2 n2 c2], .agg #[.bool s3, .slice A3 n3 c3]]) ∧ CInt w' s1 A1 n1 c1 x ∧ CInt w' s2 A2 n2 c2 y ∧ CInt w' s3 A3 n3 c3 z ∧ Below w.heap.size w w'
theorem boxes2r3 (w : World) (s t : Bool) (A A' : Option Addr) (n n' c c' : Nat) : ∃ W, W = ((((w.alloc (.cells #[.bool s, .slice A n c] 24)).alloc (.cells #[.bool t, .slice A' n' c'] 24)).alloc (.cells #[.bool false, .slice none 0 0] 24)).alloc (.cells #[.bool false, .slice none 0 0] 24)).alloc (.cells #[.bool false, .slice none 0 0] 24) ∧
    Below w.heap.size w W ∧ Pr W w.heap.size s A n c ∧ Pr W (w.heap.size + 1) t A' n' c' ∧ Pr W (w.heap.size + 1 + 1) false none 0 0 ∧ Pr W (w.heap.size + 1 + 1 + 1) false none 0 0 ∧ Pr W (w.heap.size + 1 + 1 + 1 + 1) false none 0 0 := by
  obtain ⟨W, hW, h1, h2, h3, h4⟩ := boxes2 w s t A A' n n' c c'
  obtain ⟨Y, hY, k1, k2, k3⟩ := boxes2' W false false none none 0 0 0 0
  have hs : W.heap.size = w.heap.size + 1 + 1 + 1 := by rw [hW]; simp
  rw [hs] at k2 k3
  exact ⟨Y, by rw [hY, hW], bthen h1 k1, h2.call k1, h3.call k1, h4.call k1, k2, k3⟩

set_option maxHeartbeats 1500000 in
set_option maxRecDepth 100000 in
theorem ext_any {s t : Bool} {A A' : Option Addr} {n n' c c' : Nat} {x y : Int} (w : World) (ha : AInt w s A n c x) (hb : AInt w t A' n' c' y) (hn : n ≤ 65536) (hn' : n' ≤ 65536) :
    Calls Tryd.prog 46 #[.agg #[.bool s, .slice A n c], .agg #[.bool t, .slice A' n' c']] w (RetEx w (exG x y) (exU x y) (exV x y)) := by
  obtain ⟨W, hWe, hW, p2, p3, p4, p5, p6⟩ := boxes2r3 w s t A A' n n' c c'
  have i2 := ha.call hW
  have i3 := hb.call hW
  have LX : Lim 65536 x := i2.lim.mono hn
  have LY : Lim 65536 y := i3.lim.mono hn'
  clear ha hb
  go_enter Tryd.func46, Tryd.ntmps46
  go_upto_region 1 with (fail)
  rw [← hWe]
  clear hWe
  
  by_cases hy : y = 0
  · subst hy
    have LS : Lim 1 x.sign := by unfold Lim; rw [Int.natAbs_sign]; split <;> decide
    have hs1 : -1 ≤ x.sign := by rcases Int.lt_trichotomy x 0 with h | h | h <;> simp [Int.sign_eq_neg_one_of_neg, Int.sign_eq_one_of_pos, h]
    have hs2 : x.sign ≤ 1 := by rcases Int.lt_trichotomy x 0 with h | h | h <;> simp [Int.sign_eq_neg_one_of_neg, Int.sign_eq_one_of_pos, h]
    have HG : Hid (exG x 0 = (x.natAbs : Int)) := by unfold Hid exG; rw [Int.natAbs_zero, Nat.gcd_zero_right]
    have HU : Hid (exU x 0 = x.sign) := by unfold Hid exU; rw [if_pos rfl]
    have HV : Hid (exV x 0 = 0) := by unfold Hid exV; rw [if_pos rfl]
    have HSG := Lib.hid (fun W h => sign_any (neg := s) (A := A) (n := n) (c := c) (z := x) W h)
    generalize x.sign = sg at *
    obtain ⟨o3_0, o3_1⟩ := p3.cells1
    go_wp2_with fail
    refine (sign_is 0 _ i3 rfl).mono ?_
    rintro e X1 ⟨rfl, dX1⟩
    have zX1 := dX1.size
    have lX1_p2 := p2.lt
    have lX1_p3 := p3.lt
    have lX1_p4 := p4.lt
    have lX1_p5 := p5.lt
    have lX1_p6 := p6.lt
    (replace p2 := p2.call dX1); (replace p3 := p3.call dX1); (replace p4 := p4.call dX1); (replace p5 := p5.call dX1); (replace p6 := p6.call dX1); (replace i2 := i2.call dX1); (replace i3 := i3.call dX1)
    replace hW := bthen hW dX1
    clear o3_0 o3_1
    go_upto_region 2 with (fail)
    have d0 := bdrew X1
    (replace i2 := i2.call d0); (replace p2 := p2.call d0); (replace p4 := p4.call d0); (replace p5 := p5.call d0); (replace p6 := p6.call d0)
    replace hW := bthen hW d0
    clear d0
    refine wp_region_held_drew (S := fun w' => Below w.heap.size w w' ∧ Pr w' (w.heap.size) s A n c) (by kernel_rfl) ⟨hW, p2⟩ (fun _ => ?_)
    generalize X1.drew = u0 at *
    refine wpAnyH_take (i := 0) (oi := ⟨_, _, _, _, _, _⟩) (v := ?_) rfl (by kernel_rfl) (by kernel_rfl) (by kernel_rfl) (fun _ _ _ h => h) (Or.inl ⟨by rfl, ?_⟩) ⟨hW, p2⟩ ?_
    rotate_left
    · intro w' hS'; obtain ⟨_, q_p2⟩ := hS'; have c0 := q_p2.cell0; have c1 := q_p2.cell1; (first | (go_simp; done) | (go_simp; with_reducible rfl) | with_reducible rfl)
    (try simp only [Act.put, List.setIfInBounds_toArray, List.set_cons_zero, List.set_cons_succ])
    refine wpAnyH_take (i := 2) (oi := ⟨_, _, _, _, _, _⟩) (v := ?_) rfl (by kernel_rfl) (by kernel_rfl) (by kernel_rfl) (fun _ _ _ h => h) (Or.inl ⟨by rfl, ?_⟩) ⟨hW, p2⟩ ?_
    rotate_left
    · intro w' hS'; obtain ⟨_, q_p2⟩ := hS'; have c0 := q_p2.cell0; have c1 := q_p2.cell1; (first | (go_simp; done) | (go_simp; with_reducible rfl) | with_reducible rfl)
    (try simp only [Act.put, List.setIfInBounds_toArray, List.set_cons_zero, List.set_cons_succ])
    refine wpAnyH_take (i := 5) (oi := ⟨_, _, _, _, _, _⟩) (v := ?_) rfl (by kernel_rfl) (by kernel_rfl) (by kernel_rfl) (fun _ _ _ h => h) (Or.inl ⟨by rfl, ?_⟩) ⟨hW, p2⟩ ?_
    rotate_left
    · intro w' hS'; (first | (go_simp; done) | (go_simp; with_reducible rfl) | with_reducible rfl)
    (try simp only [Act.put, List.setIfInBounds_toArray, List.set_cons_zero, List.set_cons_succ])
    refine wpAnyH_ready (rs := [1]) (by kernel_rfl) (by simp) ?_
    refine AllReadyH.cons (o := ⟨_, _, _, _, _, _⟩) rfl (fun K hK => ?_) AllReadyH.nil
    go_simp
    refine (abs_any _ i2 (by omega)).mono ?_
    rintro e u1 ⟨t1, B1, m1, e1, rfl, j1, d1⟩
    replace hW := bthen hW d1
    (replace i2 := i2.call d1); (replace p2 := p2.call d1); (replace p4 := p4.call d1); (replace p5 := p5.call d1); (replace p6 := p6.call d1)
    first | (with_reducible refine hK.out _ _ ⟨hW, p2⟩ (fun _ => ?_)) | (go_wp2_with fail; with_reducible refine hK.out _ _ ⟨hW, p2⟩ (fun _ => ?_))
    clear hK K
    (try simp only [Act.put, List.setIfInBounds_toArray, List.set_cons_zero, List.set_cons_succ])
    refine wpAnyH_ready (rs := [3]) (by kernel_rfl) (by simp) ?_
    refine AllReadyH.cons (o := ⟨_, _, _, _, _, _⟩) rfl (fun K hK => ?_) AllReadyH.nil
    go_simp
    refine (HSG.out _ i2).mono ?_
    rintro e u2 ⟨rfl, d2⟩
    replace hW := bthen hW d2
    (replace i2 := i2.call d2); (replace p2 := p2.call d2); (replace p4 := p4.call d2); (replace p5 := p5.call d2); (replace p6 := p6.call d2); (replace j1 := j1.call d2)
    first | (with_reducible refine hK.out _ _ ⟨hW, p2⟩ (fun _ => ?_)) | (go_wp2_with fail; with_reducible refine hK.out _ _ ⟨hW, p2⟩ (fun _ => ?_))
    clear hK K
    (try simp only [Act.put, List.setIfInBounds_toArray, List.set_cons_zero, List.set_cons_succ])
    refine wpAnyH_ready (rs := [4]) (by kernel_rfl) (by simp) ?_
    refine AllReadyH.cons (o := ⟨_, _, _, _, _, _⟩) rfl (fun K hK => ?_) AllReadyH.nil
    go_simp
    refine (fromInt64_any sg _ (by omega) (by omega)).mono ?_
    rintro e u3 ⟨t3, B3, m3, e3, rfl, j3, d3⟩
    replace hW := bthen hW d3
    (replace i2 := i2.call d3); (replace p2 := p2.call d3); (replace p4 := p4.call d3); (replace p5 := p5.call d3); (replace p6 := p6.call d3); (replace j1 := j1.call d3)
    first | (with_reducible refine hK.out _ _ ⟨hW, p2⟩ (fun _ => ?_)) | (go_wp2_with fail; with_reducible refine hK.out _ _ ⟨hW, p2⟩ (fun _ => ?_))
    clear hK K
    (try simp only [Act.put, List.setIfInBounds_toArray, List.set_cons_zero, List.set_cons_succ])
    refine wpAnyH_ready (rs := [6]) (by kernel_rfl) (by simp) ?_
    refine AllReadyH.cons (o := ⟨_, _, _, _, _, _⟩) rfl (fun K hK => ?_) AllReadyH.nil
    obtain ⟨q0, q1, f0, f1, k0, k1⟩ := p4.all (.bool t1) (.slice B1 m1 e1)
    go_simp
    clear q0 q1 f0 f1 k0 k1
    replace hW := below_stored hW (g := w.heap.size + 1 + 1) (by omega) (.bool t1) (.slice B1 m1 e1)
    replace j1 := j1.stored p4 (.bool t1) (.slice B1 m1 e1)
    replace j3 := j3.stored p4 (.bool t1) (.slice B1 m1 e1)
    replace i2 := i2.stored p4 (.bool t1) (.slice B1 m1 e1)
    replace p2 := p2.far (g' := w.heap.size + 1 + 1) (by omega) (.bool t1) (.slice B1 m1 e1)
    replace p5 := p5.far (g' := w.heap.size + 1 + 1) (by omega) (.bool t1) (.slice B1 m1 e1)
    replace p6 := p6.far (g' := w.heap.size + 1 + 1) (by omega) (.bool t1) (.slice B1 m1 e1)
    replace p4 := p4.stored (s' := t1) (A' := B1) (n' := m1) (c' := e1)
    generalize (u3.setCell ⟨w.heap.size + 1 + 1, 0, none⟩ (.bool t1)).setCell ⟨w.heap.size + 1 + 1, 1, none⟩ (.slice B1 m1 e1) = su34 at *
    refine hK.out _ _ ⟨hW, p2⟩ (fun _ => ?_)
    clear hK K
    (try simp only [Act.put, List.setIfInBounds_toArray, List.set_cons_zero, List.set_cons_succ])
    refine wpAnyH_ready (rs := [7]) (by kernel_rfl) (by simp) ?_
    refine AllReadyH.cons (o := ⟨_, _, _, _, _, _⟩) rfl (fun K hK => ?_) AllReadyH.nil
    obtain ⟨q0, q1, f0, f1, k0, k1⟩ := p5.all (.bool t3) (.slice B3 m3 e3)
    go_simp
    clear q0 q1 f0 f1 k0 k1
    replace hW := below_stored hW (g := w.heap.size + 1 + 1 + 1) (by omega) (.bool t3) (.slice B3 m3 e3)
    replace j1 := j1.stored p5 (.bool t3) (.slice B3 m3 e3)
    replace j3 := j3.stored p5 (.bool t3) (.slice B3 m3 e3)
    replace i2 := i2.stored p5 (.bool t3) (.slice B3 m3 e3)
    replace p2 := p2.far (g' := w.heap.size + 1 + 1 + 1) (by omega) (.bool t3) (.slice B3 m3 e3)
    replace p4 := p4.far (g' := w.heap.size + 1 + 1 + 1) (by omega) (.bool t3) (.slice B3 m3 e3)
    replace p6 := p6.far (g' := w.heap.size + 1 + 1 + 1) (by omega) (.bool t3) (.slice B3 m3 e3)
    replace p5 := p5.stored (s' := t3) (A' := B3) (n' := m3) (c' := e3)
    generalize (su34.setCell ⟨w.heap.size + 1 + 1 + 1, 0, none⟩ (.bool t3)).setCell ⟨w.heap.size + 1 + 1 + 1, 1, none⟩ (.slice B3 m3 e3) = ssu345 at *
    refine hK.out _ _ ⟨hW, p2⟩ (fun _ => ?_)
    clear hK K
    (try simp only [Act.put, List.setIfInBounds_toArray, List.set_cons_zero, List.set_cons_succ])
    refine wpAnyH_ready (rs := [8]) (by kernel_rfl) (by simp) ?_
    refine AllReadyH.cons (o := ⟨_, _, _, _, _, _⟩) rfl (fun K hK => ?_) AllReadyH.nil
    obtain ⟨q0, q1, f0, f1, k0, k1⟩ := p6.all (.bool false) (.slice none 0 0)
    go_simp
    clear q0 q1 f0 f1 k0 k1
    replace hW := below_stored hW (g := w.heap.size + 1 + 1 + 1 + 1) (by omega) (.bool false) (.slice none 0 0)
    replace j1 := j1.stored p6 (.bool false) (.slice none 0 0)
    replace j3 := j3.stored p6 (.bool false) (.slice none 0 0)
    replace i2 := i2.stored p6 (.bool false) (.slice none 0 0)
    replace p2 := p2.far (g' := w.heap.size + 1 + 1 + 1 + 1) (by omega) (.bool false) (.slice none 0 0)
    replace p4 := p4.far (g' := w.heap.size + 1 + 1 + 1 + 1) (by omega) (.bool false) (.slice none 0 0)
    replace p5 := p5.far (g' := w.heap.size + 1 + 1 + 1 + 1) (by omega) (.bool false) (.slice none 0 0)
    replace p6 := p6.stored (s' := false) (A' := none) (n' := 0) (c' := 0)
    generalize (ssu345.setCell ⟨w.heap.size + 1 + 1 + 1 + 1, 0, none⟩ (.bool false)).setCell ⟨w.heap.size + 1 + 1 + 1 + 1, 1, none⟩ (.slice none 0 0) = sssu3456 at *
    refine hK.out _ _ ⟨hW, p2⟩ (fun _ => ?_)
    clear hK K
    (try simp only [Act.put, List.setIfInBounds_toArray, List.set_cons_zero, List.set_cons_succ])
    refine wpAnyH_done (by kernel_rfl) ?_ _
    obtain ⟨x0, x1⟩ := p4.cells1
    obtain ⟨x2, x3⟩ := p5.cells1
    obtain ⟨x4, x5⟩ := p6.cells1
    go_wp2
    refine bodyPost_ret (v := .tuple #[.agg #[.bool t1, .slice B1 m1 e1], .agg #[.bool t3, .slice B3 m3 e3], .agg #[.bool false, .slice none 0 0]]) (by simp [results, Tryd.results46, go_sem, x0, x1, x2, x3, x4, x5]) rfl ?_
    exact ⟨_, _, _, _, _, _, _, _, _, _, _, _, rfl, by rw [HG.out]; exact j1, by rw [HU.out]; exact j3, by rw [HV.out]; exact CInt.zero _, hW⟩
  · obtain ⟨a', m, hxa, hym, hg, hm1, -, ef1, ef2⟩ := ex_facts x hy
    have HX := Lib.hid (exX_eq x ef1 ef2)
    have hsy : y.sign ≠ 0 := fun h => hy (Int.sign_eq_zero_iff_zero.1 h)
    have hsb : (y.sign == 0) = false := by simpa using hsy
    have HSG := Lib.hid (fun W h => sign_any (neg := t) (A := A') (n := n') (c := c') (z := y) W h)
    have HU : Hid (exU x y = exX x y) := by unfold Hid exU; rw [if_neg hy]
    have HV : Hid (exV x y = (exG x y - x * exX x y).fdiv y) := by unfold Hid exV; rw [if_neg hy]
    have HGC : Hid (∀ W, AInt W s A n c x → AInt W t A' n' c' y → Calls Tryd.prog 48 #[.agg #[.bool s, .slice A n c], .agg #[.bool t, .slice A' n' c']] W (RetInt W (exG x y))) := fun W h h' => gcd_any W h h' (by omega) (by omega)
    have LG : Lim 65536 (exG x y) := LY.le_abs' (by unfold exG; rw [Int.natAbs_natCast]; exact Nat.gcd_le_right _ (by omega))
    obtain ⟨g, hge⟩ : ∃ g : Nat, exG x y = g := ⟨_, rfl⟩
    have HEF1 := Lib.hid ef1
    have HEF2 := Lib.hid ef2
    rw [hge] at hg HEF1 HEF2 HGC LG hym
    have HGE := Lib.hid hge
    rw [hge] at HV
    have hg0 : 0 < g := by omega
    have hgz : (g : Int) ≠ 0 := by omega
    have LM : Lim 65536 (m : Int) := LY.le_abs' (by
      have h1 : (1 : Int) * m ≤ g * m := Int.mul_le_mul_of_nonneg_right (by omega) (by omega)
      rw [← hym] at h1
      rw [Int.natAbs_natCast]
      omega)
    have HINV : Hid (∀ W s3 A3 n3 c3 s4 A4 n4 c4, AInt W s A n c x → CInt W s3 A3 n3 c3 (g : Int) → CInt W s4 A4 n4 c4 (m : Int) → n3 ≤ 65536 → n4 ≤ 65536 → Calls Tryd.prog 77 #[.agg #[.bool s, .slice A n c], .agg #[.bool s3, .slice A3 n3 c3], .agg #[.bool s4, .slice A4 n4 c4]] W (RetInt W (exX x y))) := by
      intro W s3 A3 n3 c3 s4 A4 n4 c4 h1 h2 h3 h4 h5
      have := inverse_any W h1 h2 h3 (by omega) (by omega) (by omega) hg0 hm1
      rw [HEF1.out, ← HX.out] at this
      exact this
    have LXX : Lim 65536 (exX x y) := by rw [HX.out]; exact LM.fmod (by omega)
    have LP := Lib.hid (LX.mul LXX)
    obtain ⟨xx, hxx⟩ : ∃ xx, exX x y = xx := ⟨_, rfl⟩
    rw [hxx] at HINV LXX LP HU HV
    clear hxx
    have LD := Lib.hid (Lim.sub (LG.mono (show 65536 ≤ 65536 + 65536 by omega)) LP.out)
    clear hxa hym ef1 ef2 HX hge
    generalize y.sign = sg at *
    obtain ⟨o3_0, o3_1⟩ := p3.cells1
    go_wp2_with fail
    refine (HSG.out _ i3).mono ?_
    rintro e X1 ⟨rfl, dX1⟩
    have zX1 := dX1.size
    have lX1_p2 := p2.lt
    have lX1_p3 := p3.lt
    have lX1_p4 := p4.lt
    have lX1_p5 := p5.lt
    have lX1_p6 := p6.lt
    (replace p2 := p2.call dX1); (replace p3 := p3.call dX1); (replace p4 := p4.call dX1); (replace p5 := p5.call dX1); (replace p6 := p6.call dX1); (replace i2 := i2.call dX1); (replace i3 := i3.call dX1)
    replace hW := bthen hW dX1
    clear o3_0 o3_1
    go_upto_region 3 with (fail)
    obtain ⟨o2_0, o2_1⟩ := p2.cells1
    obtain ⟨o3_0, o3_1⟩ := p3.cells1
    go_wp2_with fail
    refine (HGC.out _ i2 i3).mono ?_
    rintro e X2 ⟨s1, A1, n1, c1, rfl, j1, dX2⟩
    have zX2 := dX2.size
    have lX2_p2 := p2.lt
    have lX2_p3 := p3.lt
    have lX2_p4 := p4.lt
    have lX2_p5 := p5.lt
    have lX2_p6 := p6.lt
    (replace p2 := p2.call dX2); (replace p3 := p3.call dX2); (replace p4 := p4.call dX2); (replace p5 := p5.call dX2); (replace p6 := p6.call dX2); (replace i2 := i2.call dX2); (replace i3 := i3.call dX2)
    replace hW := bthen hW dX2
    clear o2_0 o2_1 o3_0 o3_1
    obtain ⟨q0, q1, f0, f1, k0, k1⟩ := p4.all (.bool s1) (.slice A1 n1 c1)
    have hW_ := below_stored hW (g := w.heap.size + 1 + 1) (by omega) (.bool s1) (.slice A1 n1 c1)
    have p2_ := p2.far (g' := w.heap.size + 1 + 1) (by omega) (.bool s1) (.slice A1 n1 c1)
    have p3_ := p3.far (g' := w.heap.size + 1 + 1) (by omega) (.bool s1) (.slice A1 n1 c1)
    have p4_ := p4.stored (s' := s1) (A' := A1) (n' := n1) (c' := c1)
    have p5_ := p5.far (g' := w.heap.size + 1 + 1) (by omega) (.bool s1) (.slice A1 n1 c1)
    have p6_ := p6.far (g' := w.heap.size + 1 + 1) (by omega) (.bool s1) (.slice A1 n1 c1)
    have i2_ := i2.stored p4 (.bool s1) (.slice A1 n1 c1)
    have i3_ := i3.stored p4 (.bool s1) (.slice A1 n1 c1)
    have j1_ := j1.stored p4 (.bool s1) (.slice A1 n1 c1)
    go_upto_region 4 with (fail)
    clear q0 q1 f0 f1 k0 k1 hW i2 i3 j1 p2 p3 p4 p5 p6
    generalize (X2.setCell ⟨w.heap.size + 1 + 1, 0, none⟩ (.bool s1)).setCell ⟨w.heap.size + 1 + 1, 1, none⟩ (.slice A1 n1 c1) = X3 at *
    have hW := hW_; have i2 := i2_; have i3 := i3_; have j1 := j1_; have p2 := p2_; have p3 := p3_; have p4 := p4_; have p5 := p5_; have p6 := p6_
    clear hW_ i2_ i3_ j1_ p2_ p3_ p4_ p5_ p6_
    have l4 := j1.len LG
    go_upto_region 4 with (fail)
    go_cut [7, 8] (fun v7 v8 wz => ∃ gz7 gz8 : Nat, v7 = .pointer (some ⟨gz7, 0, none⟩) ∧ v8 = .pointer (some ⟨gz8, 0, none⟩) ∧ w.heap.size < gz7 ∧ w.heap.size + 1 < gz7 ∧ w.heap.size + 1 + 1 < gz7 ∧ w.heap.size + 1 + 1 + 1 < gz7 ∧ w.heap.size + 1 + 1 + 1 + 1 < gz7 ∧ gz7 ≠ gz8 ∧ w.heap.size < gz8 ∧ w.heap.size + 1 < gz8 ∧ w.heap.size + 1 + 1 < gz8 ∧ w.heap.size + 1 + 1 + 1 < gz8 ∧ w.heap.size + 1 + 1 + 1 + 1 < gz8 ∧ Hid ((Pr wz (w.heap.size) s A n c ∧ AInt wz s A n c (x)) ∧ (Pr wz (w.heap.size + 1) t A' n' c' ∧ AInt wz t A' n' c' (y)) ∧ Bx wz (w.heap.size + 1 + 1) ((g : Int)) ∧ Pr wz (w.heap.size + 1 + 1 + 1) false none 0 0 ∧ Pr wz (w.heap.size + 1 + 1 + 1 + 1) false none 0 0 ∧ Bx wz (gz7) ((m : Int)) ∧ Bx wz (gz8) ((y.natAbs : Int).fmod (g : Int)) ∧ Below w.heap.size w wz))
    case first =>
      have lo2 := p2.lt
      have lo3 := p3.lt
      have lo4 := p4.lt
      have lo5 := p5.lt
      have lo6 := p6.lt
      refine wp_region_held_drew (S := fun w' => Below X3.heap.size X3 w') (by kernel_rfl) (bdrew X3) (fun _ => ?_)
      have hS : Below X3.heap.size X3 X3.drew := bdrew X3
      generalize X3.drew = u0 at hS ⊢
      refine wpAnyH_take (i := 0) (oi := ⟨_, _, _, _, _, _⟩) (v := ?_) rfl (by kernel_rfl) (by kernel_rfl) (by kernel_rfl) (fun _ _ _ h => h) (Or.inl ⟨by rfl, ?_⟩) hS ?_
      rotate_left
      · intro w' hS'; have p' := p3.call hS'; have c0 := p'.cell0; have c1 := p'.cell1; (first | (go_simp; done) | (go_simp; with_reducible rfl) | with_reducible rfl)
      (try simp only [Act.put, List.setIfInBounds_toArray, List.set_cons_zero, List.set_cons_succ])
      refine wpAnyH_take (i := 2) (oi := ⟨_, _, _, _, _, _⟩) (v := ?_) rfl (by kernel_rfl) (by kernel_rfl) (by kernel_rfl) (fun _ _ _ h => h) (Or.inl ⟨by rfl, ?_⟩) hS ?_
      rotate_left
      · intro w' hS'; have p' := p4.call hS'; have c0 := p'.cell0; have c1 := p'.cell1; (first | (go_simp; done) | (go_simp; with_reducible rfl) | with_reducible rfl)
      (try simp only [Act.put, List.setIfInBounds_toArray, List.set_cons_zero, List.set_cons_succ])
      refine wpAnyH_ready (rs := [1, 8, 9]) (by kernel_rfl) (by simp) ?_
      refine AllReadyH.cons (o := ⟨_, _, _, _, _, _⟩) rfl (fun K hK => ?_) (AllReadyH.cons (o := ⟨_, _, _, _, _, _⟩) rfl (fun K hK => ?_) (AllReadyH.cons (o := ⟨_, _, _, _, _, _⟩) rfl (fun K hK => ?_) AllReadyH.nil))
      · go_simp
        refine (abs_any _ (i3.call hS) (by omega)).mono ?_
        rintro e u1 ⟨t2, B2, m2, e2, rfl, j2, d1⟩
        replace hS := bthen hS d1
        first | (with_reducible refine hK.out _ _ hS (fun _ => ?_)) | (go_wp2_with fail; with_reducible refine hK.out _ _ hS (fun _ => ?_))
        clear hK K
        (try simp only [Act.put, List.setIfInBounds_toArray, List.set_cons_zero, List.set_cons_succ])
        refine wpAnyH_ready (rs := [3, 8, 9]) (by kernel_rfl) (by simp) ?_
        refine AllReadyH.cons (o := ⟨_, _, _, _, _, _⟩) rfl (fun K hK => ?_) (AllReadyH.cons (o := ⟨_, _, _, _, _, _⟩) rfl (fun K hK => ?_) (AllReadyH.cons (o := ⟨_, _, _, _, _, _⟩) rfl (fun K hK => ?_) AllReadyH.nil))
        · go_simp
          refine (divMod_ne _ j2.any (j1.call hS).any (Nat.le_trans (j2.len LY.abs) (by omega)) (by omega) hgz).mono ?_
          rintro e u2 ⟨t3, B3, m3, e3, t4, B4, m4, e4, rfl, j3, j4, d2⟩
          replace hS := bthen hS d2
          (replace j2 := j2.call d2)
          first | (with_reducible refine hK.out _ _ hS (fun _ => ?_)) | (go_wp2_with fail; with_reducible refine hK.out _ _ hS (fun _ => ?_))
          clear hK K
          rw [HEF2.out] at j3
          (try simp only [Act.put, List.setIfInBounds_toArray, List.set_cons_zero, List.set_cons_succ])
          refine wpAnyH_take (i := 4) (oi := ⟨_, _, _, _, _, _⟩) (v := ?_) rfl (by kernel_rfl) (by kernel_rfl) (by kernel_rfl) (fun _ _ _ h => h) (Or.inl ⟨by rfl, ?_⟩) hS ?_
          rotate_left
          · intro w' hS'; (first | (go_simp; done) | (go_simp; with_reducible rfl) | with_reducible rfl)
          (try simp only [Act.put, List.setIfInBounds_toArray, List.set_cons_zero, List.set_cons_succ])
          refine wpAnyH_take (i := 5) (oi := ⟨_, _, _, _, _, _⟩) (v := ?_) rfl (by kernel_rfl) (by kernel_rfl) (by kernel_rfl) (fun _ _ _ h => h) (Or.inl ⟨by rfl, ?_⟩) hS ?_
          rotate_left
          · intro w' hS'; (first | (go_simp; done) | (go_simp; with_reducible rfl) | with_reducible rfl)
          (try simp only [Act.put, List.setIfInBounds_toArray, List.set_cons_zero, List.set_cons_succ])
          refine wpAnyH_take (i := 6) (oi := ⟨_, _, _, _, _, _⟩) (v := ?_) rfl (by kernel_rfl) (by kernel_rfl) (by kernel_rfl) (fun _ _ _ h => h) (Or.inl ⟨by rfl, ?_⟩) hS ?_
          rotate_left
          · intro w' hS'; (first | (go_simp; done) | (go_simp; with_reducible rfl) | with_reducible rfl)
          (try simp only [Act.put, List.setIfInBounds_toArray, List.set_cons_zero, List.set_cons_succ])
          refine wpAnyH_take (i := 7) (oi := ⟨_, _, _, _, _, _⟩) (v := ?_) rfl (by kernel_rfl) (by kernel_rfl) (by kernel_rfl) (fun _ _ _ h => h) (Or.inl ⟨by rfl, ?_⟩) hS ?_
          rotate_left
          · intro w' hS'; (first | (go_simp; done) | (go_simp; with_reducible rfl) | with_reducible rfl)
          (try simp only [Act.put, List.setIfInBounds_toArray, List.set_cons_zero, List.set_cons_succ])
          refine wpAnyH_ready (rs := [8, 9]) (by kernel_rfl) (by simp) ?_
          refine AllReadyH.cons (o := ⟨_, _, _, _, _, _⟩) rfl (fun K hK => ?_) (AllReadyH.cons (o := ⟨_, _, _, _, _, _⟩) rfl (fun K hK => ?_) AllReadyH.nil)
          · go_simp
            have pz7 := Pr.new u2 false none 0 0
            have az := bone u2 (.cells #[.bool false, .slice none 0 0] 24)
            have hz7 := hS.size
            replace hS := bthen hS az
            (replace j2 := j2.call az); (replace j3 := j3.call az); (replace j4 := j4.call az)
            refine hK.out _ _ hS (fun _ => ?_)
            clear hK K az
            generalize hgz : u2.heap.size = gz7 at hz7 pz7 ⊢
            clear hgz
            generalize u2.alloc (.cells #[.bool false, .slice none 0 0] 24) = u2z7 at *
            (try simp only [Act.put, List.setIfInBounds_toArray, List.set_cons_zero, List.set_cons_succ])
            refine wpAnyH_ready (rs := [9]) (by kernel_rfl) (by simp) ?_
            refine AllReadyH.cons (o := ⟨_, _, _, _, _, _⟩) rfl (fun K hK => ?_) AllReadyH.nil
            go_simp
            have pz8 := Pr.new u2z7 false none 0 0
            have az := bone u2z7 (.cells #[.bool false, .slice none 0 0] 24)
            have hz8 := hS.size
            have lt7_8 := pz7.lt
            replace hS := bthen hS az
            (replace j2 := j2.call az); (replace j3 := j3.call az); (replace j4 := j4.call az); (replace pz7 := pz7.call az)
            refine hK.out _ _ hS (fun _ => ?_)
            clear hK K az
            generalize hgz : u2z7.heap.size = gz8 at hz8 pz8 ⊢ lt7_8
            clear hgz
            generalize u2z7.alloc (.cells #[.bool false, .slice none 0 0] 24) = u2z7z8 at *
            (try simp only [Act.put, List.setIfInBounds_toArray, List.set_cons_zero, List.set_cons_succ])
            refine wpAnyH_ready (rs := [10]) (by kernel_rfl) (by simp) ?_
            refine AllReadyH.cons (o := ⟨_, _, _, _, _, _⟩) rfl (fun K hK => ?_) AllReadyH.nil
            obtain ⟨q0, q1, f0, f1, k0, k1⟩ := pz7.all (.bool t3) (.slice B3 m3 e3)
            go_simp
            replace hS := below_stored hS hz7 (.bool t3) (.slice B3 m3 e3)
            refine hK.out _ _ hS (fun _ => ?_)
            clear hK K q0 q1 f0 f1 k0 k1
            replace j2 := j2.stored pz7 (.bool t3) (.slice B3 m3 e3)
            replace j3 := j3.stored pz7 (.bool t3) (.slice B3 m3 e3)
            replace j4 := j4.stored pz7 (.bool t3) (.slice B3 m3 e3)
            replace pz8 := pz8.far (g' := gz7) (by omega) (.bool t3) (.slice B3 m3 e3)
            replace pz7 := pz7.stored (s' := t3) (A' := B3) (n' := m3) (c' := e3)
            (try simp only [Act.put, List.setIfInBounds_toArray, List.set_cons_zero, List.set_cons_succ])
            refine wpAnyH_ready (rs := [11]) (by kernel_rfl) (by simp) ?_
            refine AllReadyH.cons (o := ⟨_, _, _, _, _, _⟩) rfl (fun K hK => ?_) AllReadyH.nil
            obtain ⟨q0, q1, f0, f1, k0, k1⟩ := pz8.all (.bool t4) (.slice B4 m4 e4)
            go_simp
            replace hS := below_stored hS hz8 (.bool t4) (.slice B4 m4 e4)
            refine hK.out _ _ hS (fun _ => ?_)
            clear hK K q0 q1 f0 f1 k0 k1
            replace j2 := j2.stored pz8 (.bool t4) (.slice B4 m4 e4)
            replace j3 := j3.stored pz8 (.bool t4) (.slice B4 m4 e4)
            replace j4 := j4.stored pz8 (.bool t4) (.slice B4 m4 e4)
            replace pz7 := pz7.far (g' := gz8) (by omega) (.bool t4) (.slice B4 m4 e4)
            replace pz8 := pz8.stored (s' := t4) (A' := B4) (n' := m4) (c' := e4)
            (try simp only [Act.put, List.setIfInBounds_toArray, List.set_cons_zero, List.set_cons_succ])
            refine wpAnyH_take (i := 12) (oi := ⟨_, _, _, _, _, _⟩) (v := ?_) rfl (by kernel_rfl) (by kernel_rfl) (by kernel_rfl) (fun _ _ _ h => h) (Or.inl ⟨by rfl, ?_⟩) hS ?_
            rotate_left
            · intro w' hS'; (first | (go_simp; done) | (go_simp; with_reducible rfl) | with_reducible rfl)
            (try simp only [Act.put, List.setIfInBounds_toArray, List.set_cons_zero, List.set_cons_succ])
            refine wpAnyH_done (by kernel_rfl) ?_ _
            go_wp2_with fail
            go_meet
            case rel => exact ⟨gz7, gz8, rfl, rfl, by omega, by omega, by omega, by omega, by omega, by omega, by omega, by omega, by omega, by omega, by omega, ⟨⟨(p2.call hS), (i2.call hS)⟩, ⟨(p3.call hS), (i3.call hS)⟩, ⟨_, _, _, _, (p4.call hS), (j1.call hS)⟩, (p5.call hS), (p6.call hS), ⟨_, _, _, _, pz7, j3⟩, ⟨_, _, _, _, pz8, j4⟩, (bthen hW hS)⟩⟩
          · go_simp
            have pz8 := Pr.new u2 false none 0 0
            have az := bone u2 (.cells #[.bool false, .slice none 0 0] 24)
            have hz8 := hS.size
            replace hS := bthen hS az
            (replace j2 := j2.call az); (replace j3 := j3.call az); (replace j4 := j4.call az)
            refine hK.out _ _ hS (fun _ => ?_)
            clear hK K az
            generalize hgz : u2.heap.size = gz8 at hz8 pz8 ⊢
            clear hgz
            generalize u2.alloc (.cells #[.bool false, .slice none 0 0] 24) = u2z8 at *
            (try simp only [Act.put, List.setIfInBounds_toArray, List.set_cons_zero, List.set_cons_succ])
            refine wpAnyH_ready (rs := [8]) (by kernel_rfl) (by simp) ?_
            refine AllReadyH.cons (o := ⟨_, _, _, _, _, _⟩) rfl (fun K hK => ?_) AllReadyH.nil
            go_simp
            have pz7 := Pr.new u2z8 false none 0 0
            have az := bone u2z8 (.cells #[.bool false, .slice none 0 0] 24)
            have hz7 := hS.size
            have lt8_7 := pz8.lt
            replace hS := bthen hS az
            (replace j2 := j2.call az); (replace j3 := j3.call az); (replace j4 := j4.call az); (replace pz8 := pz8.call az)
            refine hK.out _ _ hS (fun _ => ?_)
            clear hK K az
            generalize hgz : u2z8.heap.size = gz7 at hz7 pz7 ⊢ lt8_7
            clear hgz
            generalize u2z8.alloc (.cells #[.bool false, .slice none 0 0] 24) = u2z8z7 at *
            (try simp only [Act.put, List.setIfInBounds_toArray, List.set_cons_zero, List.set_cons_succ])
            refine wpAnyH_ready (rs := [10]) (by kernel_rfl) (by simp) ?_
            refine AllReadyH.cons (o := ⟨_, _, _, _, _, _⟩) rfl (fun K hK => ?_) AllReadyH.nil
            obtain ⟨q0, q1, f0, f1, k0, k1⟩ := pz7.all (.bool t3) (.slice B3 m3 e3)
            go_simp
            replace hS := below_stored hS hz7 (.bool t3) (.slice B3 m3 e3)
            refine hK.out _ _ hS (fun _ => ?_)
            clear hK K q0 q1 f0 f1 k0 k1
            replace j2 := j2.stored pz7 (.bool t3) (.slice B3 m3 e3)
            replace j3 := j3.stored pz7 (.bool t3) (.slice B3 m3 e3)
            replace j4 := j4.stored pz7 (.bool t3) (.slice B3 m3 e3)
            replace pz8 := pz8.far (g' := gz7) (by omega) (.bool t3) (.slice B3 m3 e3)
            replace pz7 := pz7.stored (s' := t3) (A' := B3) (n' := m3) (c' := e3)
            (try simp only [Act.put, List.setIfInBounds_toArray, List.set_cons_zero, List.set_cons_succ])
            refine wpAnyH_ready (rs := [11]) (by kernel_rfl) (by simp) ?_
            refine AllReadyH.cons (o := ⟨_, _, _, _, _, _⟩) rfl (fun K hK => ?_) AllReadyH.nil
            obtain ⟨q0, q1, f0, f1, k0, k1⟩ := pz8.all (.bool t4) (.slice B4 m4 e4)
            go_simp
            replace hS := below_stored hS hz8 (.bool t4) (.slice B4 m4 e4)
            refine hK.out _ _ hS (fun _ => ?_)
            clear hK K q0 q1 f0 f1 k0 k1
            replace j2 := j2.stored pz8 (.bool t4) (.slice B4 m4 e4)
            replace j3 := j3.stored pz8 (.bool t4) (.slice B4 m4 e4)
            replace j4 := j4.stored pz8 (.bool t4) (.slice B4 m4 e4)
            replace pz7 := pz7.far (g' := gz8) (by omega) (.bool t4) (.slice B4 m4 e4)
            replace pz8 := pz8.stored (s' := t4) (A' := B4) (n' := m4) (c' := e4)
            (try simp only [Act.put, List.setIfInBounds_toArray, List.set_cons_zero, List.set_cons_succ])
            refine wpAnyH_take (i := 12) (oi := ⟨_, _, _, _, _, _⟩) (v := ?_) rfl (by kernel_rfl) (by kernel_rfl) (by kernel_rfl) (fun _ _ _ h => h) (Or.inl ⟨by rfl, ?_⟩) hS ?_
            rotate_left
            · intro w' hS'; (first | (go_simp; done) | (go_simp; with_reducible rfl) | with_reducible rfl)
            (try simp only [Act.put, List.setIfInBounds_toArray, List.set_cons_zero, List.set_cons_succ])
            refine wpAnyH_done (by kernel_rfl) ?_ _
            go_wp2_with fail
            go_meet
            case rel => exact ⟨gz7, gz8, rfl, rfl, by omega, by omega, by omega, by omega, by omega, by omega, by omega, by omega, by omega, by omega, by omega, ⟨⟨(p2.call hS), (i2.call hS)⟩, ⟨(p3.call hS), (i3.call hS)⟩, ⟨_, _, _, _, (p4.call hS), (j1.call hS)⟩, (p5.call hS), (p6.call hS), ⟨_, _, _, _, pz7, j3⟩, ⟨_, _, _, _, pz8, j4⟩, (bthen hW hS)⟩⟩
        · go_simp
          have pz7 := Pr.new u1 false none 0 0
          have az := bone u1 (.cells #[.bool false, .slice none 0 0] 24)
          have hz7 := hS.size
          replace hS := bthen hS az
          (replace j2 := j2.call az)
          refine hK.out _ _ hS (fun _ => ?_)
          clear hK K az
          generalize hgz : u1.heap.size = gz7 at hz7 pz7 ⊢
          clear hgz
          generalize u1.alloc (.cells #[.bool false, .slice none 0 0] 24) = u1z7 at *
          (try simp only [Act.put, List.setIfInBounds_toArray, List.set_cons_zero, List.set_cons_succ])
          refine wpAnyH_ready (rs := [3, 9]) (by kernel_rfl) (by simp) ?_
          refine AllReadyH.cons (o := ⟨_, _, _, _, _, _⟩) rfl (fun K hK => ?_) (AllReadyH.cons (o := ⟨_, _, _, _, _, _⟩) rfl (fun K hK => ?_) AllReadyH.nil)
          · go_simp
            refine (divMod_ne _ j2.any (j1.call hS).any (Nat.le_trans (j2.len LY.abs) (by omega)) (by omega) hgz).mono ?_
            rintro e u2 ⟨t3, B3, m3, e3, t4, B4, m4, e4, rfl, j3, j4, d2⟩
            replace hS := bthen hS d2
            (replace j2 := j2.call d2); (replace pz7 := pz7.call d2)
            first | (with_reducible refine hK.out _ _ hS (fun _ => ?_)) | (go_wp2_with fail; with_reducible refine hK.out _ _ hS (fun _ => ?_))
            clear hK K
            rw [HEF2.out] at j3
            (try simp only [Act.put, List.setIfInBounds_toArray, List.set_cons_zero, List.set_cons_succ])
            refine wpAnyH_take (i := 4) (oi := ⟨_, _, _, _, _, _⟩) (v := ?_) rfl (by kernel_rfl) (by kernel_rfl) (by kernel_rfl) (fun _ _ _ h => h) (Or.inl ⟨by rfl, ?_⟩) hS ?_
            rotate_left
            · intro w' hS'; (first | (go_simp; done) | (go_simp; with_reducible rfl) | with_reducible rfl)
            (try simp only [Act.put, List.setIfInBounds_toArray, List.set_cons_zero, List.set_cons_succ])
            refine wpAnyH_take (i := 5) (oi := ⟨_, _, _, _, _, _⟩) (v := ?_) rfl (by kernel_rfl) (by kernel_rfl) (by kernel_rfl) (fun _ _ _ h => h) (Or.inl ⟨by rfl, ?_⟩) hS ?_
            rotate_left
            · intro w' hS'; (first | (go_simp; done) | (go_simp; with_reducible rfl) | with_reducible rfl)
            (try simp only [Act.put, List.setIfInBounds_toArray, List.set_cons_zero, List.set_cons_succ])
            refine wpAnyH_take (i := 6) (oi := ⟨_, _, _, _, _, _⟩) (v := ?_) rfl (by kernel_rfl) (by kernel_rfl) (by kernel_rfl) (fun _ _ _ h => h) (Or.inl ⟨by rfl, ?_⟩) hS ?_
            rotate_left
            · intro w' hS'; (first | (go_simp; done) | (go_simp; with_reducible rfl) | with_reducible rfl)
            (try simp only [Act.put, List.setIfInBounds_toArray, List.set_cons_zero, List.set_cons_succ])
            refine wpAnyH_take (i := 7) (oi := ⟨_, _, _, _, _, _⟩) (v := ?_) rfl (by kernel_rfl) (by kernel_rfl) (by kernel_rfl) (fun _ _ _ h => h) (Or.inl ⟨by rfl, ?_⟩) hS ?_
            rotate_left
            · intro w' hS'; (first | (go_simp; done) | (go_simp; with_reducible rfl) | with_reducible rfl)
            (try simp only [Act.put, List.setIfInBounds_toArray, List.set_cons_zero, List.set_cons_succ])
            refine wpAnyH_ready (rs := [9]) (by kernel_rfl) (by simp) ?_
            refine AllReadyH.cons (o := ⟨_, _, _, _, _, _⟩) rfl (fun K hK => ?_) AllReadyH.nil
            go_simp
            have pz8 := Pr.new u2 false none 0 0
            have az := bone u2 (.cells #[.bool false, .slice none 0 0] 24)
            have hz8 := hS.size
            have lt7_8 := pz7.lt
            replace hS := bthen hS az
            (replace j2 := j2.call az); (replace j3 := j3.call az); (replace j4 := j4.call az); (replace pz7 := pz7.call az)
            refine hK.out _ _ hS (fun _ => ?_)
            clear hK K az
            generalize hgz : u2.heap.size = gz8 at hz8 pz8 ⊢ lt7_8
            clear hgz
            generalize u2.alloc (.cells #[.bool false, .slice none 0 0] 24) = u2z8 at *
            (try simp only [Act.put, List.setIfInBounds_toArray, List.set_cons_zero, List.set_cons_succ])
            refine wpAnyH_ready (rs := [10]) (by kernel_rfl) (by simp) ?_
            refine AllReadyH.cons (o := ⟨_, _, _, _, _, _⟩) rfl (fun K hK => ?_) AllReadyH.nil
            obtain ⟨q0, q1, f0, f1, k0, k1⟩ := pz7.all (.bool t3) (.slice B3 m3 e3)
            go_simp
            replace hS := below_stored hS hz7 (.bool t3) (.slice B3 m3 e3)
            refine hK.out _ _ hS (fun _ => ?_)
            clear hK K q0 q1 f0 f1 k0 k1
            replace j2 := j2.stored pz7 (.bool t3) (.slice B3 m3 e3)
            replace j3 := j3.stored pz7 (.bool t3) (.slice B3 m3 e3)
            replace j4 := j4.stored pz7 (.bool t3) (.slice B3 m3 e3)
            replace pz8 := pz8.far (g' := gz7) (by omega) (.bool t3) (.slice B3 m3 e3)
            replace pz7 := pz7.stored (s' := t3) (A' := B3) (n' := m3) (c' := e3)
            (try simp only [Act.put, List.setIfInBounds_toArray, List.set_cons_zero, List.set_cons_succ])
            refine wpAnyH_ready (rs := [11]) (by kernel_rfl) (by simp) ?_
            refine AllReadyH.cons (o := ⟨_, _, _, _, _, _⟩) rfl (fun K hK => ?_) AllReadyH.nil
            obtain ⟨q0, q1, f0, f1, k0, k1⟩ := pz8.all (.bool t4) (.slice B4 m4 e4)
            go_simp
            replace hS := below_stored hS hz8 (.bool t4) (.slice B4 m4 e4)
            refine hK.out _ _ hS (fun _ => ?_)
            clear hK K q0 q1 f0 f1 k0 k1
            replace j2 := j2.stored pz8 (.bool t4) (.slice B4 m4 e4)
            replace j3 := j3.stored pz8 (.bool t4) (.slice B4 m4 e4)
            replace j4 := j4.stored pz8 (.bool t4) (.slice B4 m4 e4)
            replace pz7 := pz7.far (g' := gz8) (by omega) (.bool t4) (.slice B4 m4 e4)
            replace pz8 := pz8.stored (s' := t4) (A' := B4) (n' := m4) (c' := e4)
            (try simp only [Act.put, List.setIfInBounds_toArray, List.set_cons_zero, List.set_cons_succ])
            refine wpAnyH_take (i := 12) (oi := ⟨_, _, _, _, _, _⟩) (v := ?_) rfl (by kernel_rfl) (by kernel_rfl) (by kernel_rfl) (fun _ _ _ h => h) (Or.inl ⟨by rfl, ?_⟩) hS ?_
            rotate_left
            · intro w' hS'; (first | (go_simp; done) | (go_simp; with_reducible rfl) | with_reducible rfl)
            (try simp only [Act.put, List.setIfInBounds_toArray, List.set_cons_zero, List.set_cons_succ])
            refine wpAnyH_done (by kernel_rfl) ?_ _
            go_wp2_with fail
            go_meet
            case rel => exact ⟨gz7, gz8, rfl, rfl, by omega, by omega, by omega, by omega, by omega, by omega, by omega, by omega, by omega, by omega, by omega, ⟨⟨(p2.call hS), (i2.call hS)⟩, ⟨(p3.call hS), (i3.call hS)⟩, ⟨_, _, _, _, (p4.call hS), (j1.call hS)⟩, (p5.call hS), (p6.call hS), ⟨_, _, _, _, pz7, j3⟩, ⟨_, _, _, _, pz8, j4⟩, (bthen hW hS)⟩⟩
          · go_simp
            have pz8 := Pr.new u1z7 false none 0 0
            have az := bone u1z7 (.cells #[.bool false, .slice none 0 0] 24)
            have hz8 := hS.size
            have lt7_8 := pz7.lt
            replace hS := bthen hS az
            (replace j2 := j2.call az); (replace pz7 := pz7.call az)
            refine hK.out _ _ hS (fun _ => ?_)
            clear hK K az
            generalize hgz : u1z7.heap.size = gz8 at hz8 pz8 ⊢ lt7_8
            clear hgz
            generalize u1z7.alloc (.cells #[.bool false, .slice none 0 0] 24) = u1z7z8 at *
            (try simp only [Act.put, List.setIfInBounds_toArray, List.set_cons_zero, List.set_cons_succ])
            refine wpAnyH_ready (rs := [3]) (by kernel_rfl) (by simp) ?_
            refine AllReadyH.cons (o := ⟨_, _, _, _, _, _⟩) rfl (fun K hK => ?_) AllReadyH.nil
            go_simp
            refine (divMod_ne _ j2.any (j1.call hS).any (Nat.le_trans (j2.len LY.abs) (by omega)) (by omega) hgz).mono ?_
            rintro e u2 ⟨t3, B3, m3, e3, t4, B4, m4, e4, rfl, j3, j4, d2⟩
            replace hS := bthen hS d2
            (replace j2 := j2.call d2); (replace pz7 := pz7.call d2); (replace pz8 := pz8.call d2)
            first | (with_reducible refine hK.out _ _ hS (fun _ => ?_)) | (go_wp2_with fail; with_reducible refine hK.out _ _ hS (fun _ => ?_))
            clear hK K
            rw [HEF2.out] at j3
            (try simp only [Act.put, List.setIfInBounds_toArray, List.set_cons_zero, List.set_cons_succ])
            refine wpAnyH_take (i := 4) (oi := ⟨_, _, _, _, _, _⟩) (v := ?_) rfl (by kernel_rfl) (by kernel_rfl) (by kernel_rfl) (fun _ _ _ h => h) (Or.inl ⟨by rfl, ?_⟩) hS ?_
            rotate_left
            · intro w' hS'; (first | (go_simp; done) | (go_simp; with_reducible rfl) | with_reducible rfl)
            (try simp only [Act.put, List.setIfInBounds_toArray, List.set_cons_zero, List.set_cons_succ])
            refine wpAnyH_take (i := 5) (oi := ⟨_, _, _, _, _, _⟩) (v := ?_) rfl (by kernel_rfl) (by kernel_rfl) (by kernel_rfl) (fun _ _ _ h => h) (Or.inl ⟨by rfl, ?_⟩) hS ?_
            rotate_left
            · intro w' hS'; (first | (go_simp; done) | (go_simp; with_reducible rfl) | with_reducible rfl)
            (try simp only [Act.put, List.setIfInBounds_toArray, List.set_cons_zero, List.set_cons_succ])
            refine wpAnyH_take (i := 6) (oi := ⟨_, _, _, _, _, _⟩) (v := ?_) rfl (by kernel_rfl) (by kernel_rfl) (by kernel_rfl) (fun _ _ _ h => h) (Or.inl ⟨by rfl, ?_⟩) hS ?_
            rotate_left
            · intro w' hS'; (first | (go_simp; done) | (go_simp; with_reducible rfl) | with_reducible rfl)
            (try simp only [Act.put, List.setIfInBounds_toArray, List.set_cons_zero, List.set_cons_succ])
            refine wpAnyH_take (i := 7) (oi := ⟨_, _, _, _, _, _⟩) (v := ?_) rfl (by kernel_rfl) (by kernel_rfl) (by kernel_rfl) (fun _ _ _ h => h) (Or.inl ⟨by rfl, ?_⟩) hS ?_
            rotate_left
            · intro w' hS'; (first | (go_simp; done) | (go_simp; with_reducible rfl) | with_reducible rfl)
            (try simp only [Act.put, List.setIfInBounds_toArray, List.set_cons_zero, List.set_cons_succ])
            refine wpAnyH_ready (rs := [10]) (by kernel_rfl) (by simp) ?_
            refine AllReadyH.cons (o := ⟨_, _, _, _, _, _⟩) rfl (fun K hK => ?_) AllReadyH.nil
            obtain ⟨q0, q1, f0, f1, k0, k1⟩ := pz7.all (.bool t3) (.slice B3 m3 e3)
            go_simp
            replace hS := below_stored hS hz7 (.bool t3) (.slice B3 m3 e3)
            refine hK.out _ _ hS (fun _ => ?_)
            clear hK K q0 q1 f0 f1 k0 k1
            replace j2 := j2.stored pz7 (.bool t3) (.slice B3 m3 e3)
            replace j3 := j3.stored pz7 (.bool t3) (.slice B3 m3 e3)
            replace j4 := j4.stored pz7 (.bool t3) (.slice B3 m3 e3)
            replace pz8 := pz8.far (g' := gz7) (by omega) (.bool t3) (.slice B3 m3 e3)
            replace pz7 := pz7.stored (s' := t3) (A' := B3) (n' := m3) (c' := e3)
            (try simp only [Act.put, List.setIfInBounds_toArray, List.set_cons_zero, List.set_cons_succ])
            refine wpAnyH_ready (rs := [11]) (by kernel_rfl) (by simp) ?_
            refine AllReadyH.cons (o := ⟨_, _, _, _, _, _⟩) rfl (fun K hK => ?_) AllReadyH.nil
            obtain ⟨q0, q1, f0, f1, k0, k1⟩ := pz8.all (.bool t4) (.slice B4 m4 e4)
            go_simp
            replace hS := below_stored hS hz8 (.bool t4) (.slice B4 m4 e4)
            refine hK.out _ _ hS (fun _ => ?_)
            clear hK K q0 q1 f0 f1 k0 k1
            replace j2 := j2.stored pz8 (.bool t4) (.slice B4 m4 e4)
            replace j3 := j3.stored pz8 (.bool t4) (.slice B4 m4 e4)
            replace j4 := j4.stored pz8 (.bool t4) (.slice B4 m4 e4)
            replace pz7 := pz7.far (g' := gz8) (by omega) (.bool t4) (.slice B4 m4 e4)
            replace pz8 := pz8.stored (s' := t4) (A' := B4) (n' := m4) (c' := e4)
            (try simp only [Act.put, List.setIfInBounds_toArray, List.set_cons_zero, List.set_cons_succ])
            refine wpAnyH_take (i := 12) (oi := ⟨_, _, _, _, _, _⟩) (v := ?_) rfl (by kernel_rfl) (by kernel_rfl) (by kernel_rfl) (fun _ _ _ h => h) (Or.inl ⟨by rfl, ?_⟩) hS ?_
            rotate_left
            · intro w' hS'; (first | (go_simp; done) | (go_simp; with_reducible rfl) | with_reducible rfl)
            (try simp only [Act.put, List.setIfInBounds_toArray, List.set_cons_zero, List.set_cons_succ])
            refine wpAnyH_done (by kernel_rfl) ?_ _
            go_wp2_with fail
            go_meet
            case rel => exact ⟨gz7, gz8, rfl, rfl, by omega, by omega, by omega, by omega, by omega, by omega, by omega, by omega, by omega, by omega, by omega, ⟨⟨(p2.call hS), (i2.call hS)⟩, ⟨(p3.call hS), (i3.call hS)⟩, ⟨_, _, _, _, (p4.call hS), (j1.call hS)⟩, (p5.call hS), (p6.call hS), ⟨_, _, _, _, pz7, j3⟩, ⟨_, _, _, _, pz8, j4⟩, (bthen hW hS)⟩⟩
        · go_simp
          have pz8 := Pr.new u1 false none 0 0
          have az := bone u1 (.cells #[.bool false, .slice none 0 0] 24)
          have hz8 := hS.size
          replace hS := bthen hS az
          (replace j2 := j2.call az)
          refine hK.out _ _ hS (fun _ => ?_)
          clear hK K az
          generalize hgz : u1.heap.size = gz8 at hz8 pz8 ⊢
          clear hgz
          generalize u1.alloc (.cells #[.bool false, .slice none 0 0] 24) = u1z8 at *
          (try simp only [Act.put, List.setIfInBounds_toArray, List.set_cons_zero, List.set_cons_succ])
          refine wpAnyH_ready (rs := [3, 8]) (by kernel_rfl) (by simp) ?_
          refine AllReadyH.cons (o := ⟨_, _, _, _, _, _⟩) rfl (fun K hK => ?_) (AllReadyH.cons (o := ⟨_, _, _, _, _, _⟩) rfl (fun K hK => ?_) AllReadyH.nil)
          · go_simp
            refine (divMod_ne _ j2.any (j1.call hS).any (Nat.le_trans (j2.len LY.abs) (by omega)) (by omega) hgz).mono ?_
            rintro e u2 ⟨t3, B3, m3, e3, t4, B4, m4, e4, rfl, j3, j4, d2⟩
            replace hS := bthen hS d2
            (replace j2 := j2.call d2); (replace pz8 := pz8.call d2)
            first | (with_reducible refine hK.out _ _ hS (fun _ => ?_)) | (go_wp2_with fail; with_reducible refine hK.out _ _ hS (fun _ => ?_))
            clear hK K
            rw [HEF2.out] at j3
            (try simp only [Act.put, List.setIfInBounds_toArray, List.set_cons_zero, List.set_cons_succ])
            refine wpAnyH_take (i := 4) (oi := ⟨_, _, _, _, _, _⟩) (v := ?_) rfl (by kernel_rfl) (by kernel_rfl) (by kernel_rfl) (fun _ _ _ h => h) (Or.inl ⟨by rfl, ?_⟩) hS ?_
            rotate_left
            · intro w' hS'; (first | (go_simp; done) | (go_simp; with_reducible rfl) | with_reducible rfl)
            (try simp only [Act.put, List.setIfInBounds_toArray, List.set_cons_zero, List.set_cons_succ])
            refine wpAnyH_take (i := 5) (oi := ⟨_, _, _, _, _, _⟩) (v := ?_) rfl (by kernel_rfl) (by kernel_rfl) (by kernel_rfl) (fun _ _ _ h => h) (Or.inl ⟨by rfl, ?_⟩) hS ?_
            rotate_left
            · intro w' hS'; (first | (go_simp; done) | (go_simp; with_reducible rfl) | with_reducible rfl)
            (try simp only [Act.put, List.setIfInBounds_toArray, List.set_cons_zero, List.set_cons_succ])
            refine wpAnyH_take (i := 6) (oi := ⟨_, _, _, _, _, _⟩) (v := ?_) rfl (by kernel_rfl) (by kernel_rfl) (by kernel_rfl) (fun _ _ _ h => h) (Or.inl ⟨by rfl, ?_⟩) hS ?_
            rotate_left
            · intro w' hS'; (first | (go_simp; done) | (go_simp; with_reducible rfl) | with_reducible rfl)
            (try simp only [Act.put, List.setIfInBounds_toArray, List.set_cons_zero, List.set_cons_succ])
            refine wpAnyH_take (i := 7) (oi := ⟨_, _, _, _, _, _⟩) (v := ?_) rfl (by kernel_rfl) (by kernel_rfl) (by kernel_rfl) (fun _ _ _ h => h) (Or.inl ⟨by rfl, ?_⟩) hS ?_
            rotate_left
            · intro w' hS'; (first | (go_simp; done) | (go_simp; with_reducible rfl) | with_reducible rfl)
            (try simp only [Act.put, List.setIfInBounds_toArray, List.set_cons_zero, List.set_cons_succ])
            refine wpAnyH_ready (rs := [8]) (by kernel_rfl) (by simp) ?_
            refine AllReadyH.cons (o := ⟨_, _, _, _, _, _⟩) rfl (fun K hK => ?_) AllReadyH.nil
            go_simp
            have pz7 := Pr.new u2 false none 0 0
            have az := bone u2 (.cells #[.bool false, .slice none 0 0] 24)
            have hz7 := hS.size
            have lt8_7 := pz8.lt
            replace hS := bthen hS az
            (replace j2 := j2.call az); (replace j3 := j3.call az); (replace j4 := j4.call az); (replace pz8 := pz8.call az)
            refine hK.out _ _ hS (fun _ => ?_)
            clear hK K az
            generalize hgz : u2.heap.size = gz7 at hz7 pz7 ⊢ lt8_7
            clear hgz
            generalize u2.alloc (.cells #[.bool false, .slice none 0 0] 24) = u2z7 at *
            (try simp only [Act.put, List.setIfInBounds_toArray, List.set_cons_zero, List.set_cons_succ])
            refine wpAnyH_ready (rs := [10]) (by kernel_rfl) (by simp) ?_
            refine AllReadyH.cons (o := ⟨_, _, _, _, _, _⟩) rfl (fun K hK => ?_) AllReadyH.nil
            obtain ⟨q0, q1, f0, f1, k0, k1⟩ := pz7.all (.bool t3) (.slice B3 m3 e3)
            go_simp
            replace hS := below_stored hS hz7 (.bool t3) (.slice B3 m3 e3)
            refine hK.out _ _ hS (fun _ => ?_)
            clear hK K q0 q1 f0 f1 k0 k1
            replace j2 := j2.stored pz7 (.bool t3) (.slice B3 m3 e3)
            replace j3 := j3.stored pz7 (.bool t3) (.slice B3 m3 e3)
            replace j4 := j4.stored pz7 (.bool t3) (.slice B3 m3 e3)
            replace pz8 := pz8.far (g' := gz7) (by omega) (.bool t3) (.slice B3 m3 e3)
            replace pz7 := pz7.stored (s' := t3) (A' := B3) (n' := m3) (c' := e3)
            (try simp only [Act.put, List.setIfInBounds_toArray, List.set_cons_zero, List.set_cons_succ])
            refine wpAnyH_ready (rs := [11]) (by kernel_rfl) (by simp) ?_
            refine AllReadyH.cons (o := ⟨_, _, _, _, _, _⟩) rfl (fun K hK => ?_) AllReadyH.nil
            obtain ⟨q0, q1, f0, f1, k0, k1⟩ := pz8.all (.bool t4) (.slice B4 m4 e4)
            go_simp
            replace hS := below_stored hS hz8 (.bool t4) (.slice B4 m4 e4)
            refine hK.out _ _ hS (fun _ => ?_)
            clear hK K q0 q1 f0 f1 k0 k1
            replace j2 := j2.stored pz8 (.bool t4) (.slice B4 m4 e4)
            replace j3 := j3.stored pz8 (.bool t4) (.slice B4 m4 e4)
            replace j4 := j4.stored pz8 (.bool t4) (.slice B4 m4 e4)
            replace pz7 := pz7.far (g' := gz8) (by omega) (.bool t4) (.slice B4 m4 e4)
            replace pz8 := pz8.stored (s' := t4) (A' := B4) (n' := m4) (c' := e4)
            (try simp only [Act.put, List.setIfInBounds_toArray, List.set_cons_zero, List.set_cons_succ])
            refine wpAnyH_take (i := 12) (oi := ⟨_, _, _, _, _, _⟩) (v := ?_) rfl (by kernel_rfl) (by kernel_rfl) (by kernel_rfl) (fun _ _ _ h => h) (Or.inl ⟨by rfl, ?_⟩) hS ?_
            rotate_left
            · intro w' hS'; (first | (go_simp; done) | (go_simp; with_reducible rfl) | with_reducible rfl)
            (try simp only [Act.put, List.setIfInBounds_toArray, List.set_cons_zero, List.set_cons_succ])
            refine wpAnyH_done (by kernel_rfl) ?_ _
            go_wp2_with fail
            go_meet
            case rel => exact ⟨gz7, gz8, rfl, rfl, by omega, by omega, by omega, by omega, by omega, by omega, by omega, by omega, by omega, by omega, by omega, ⟨⟨(p2.call hS), (i2.call hS)⟩, ⟨(p3.call hS), (i3.call hS)⟩, ⟨_, _, _, _, (p4.call hS), (j1.call hS)⟩, (p5.call hS), (p6.call hS), ⟨_, _, _, _, pz7, j3⟩, ⟨_, _, _, _, pz8, j4⟩, (bthen hW hS)⟩⟩
          · go_simp
            have pz7 := Pr.new u1z8 false none 0 0
            have az := bone u1z8 (.cells #[.bool false, .slice none 0 0] 24)
            have hz7 := hS.size
            have lt8_7 := pz8.lt
            replace hS := bthen hS az
            (replace j2 := j2.call az); (replace pz8 := pz8.call az)
            refine hK.out _ _ hS (fun _ => ?_)
            clear hK K az
            generalize hgz : u1z8.heap.size = gz7 at hz7 pz7 ⊢ lt8_7
            clear hgz
            generalize u1z8.alloc (.cells #[.bool false, .slice none 0 0] 24) = u1z8z7 at *
            (try simp only [Act.put, List.setIfInBounds_toArray, List.set_cons_zero, List.set_cons_succ])
            refine wpAnyH_ready (rs := [3]) (by kernel_rfl) (by simp) ?_
            refine AllReadyH.cons (o := ⟨_, _, _, _, _, _⟩) rfl (fun K hK => ?_) AllReadyH.nil
            go_simp
            refine (divMod_ne _ j2.any (j1.call hS).any (Nat.le_trans (j2.len LY.abs) (by omega)) (by omega) hgz).mono ?_
            rintro e u2 ⟨t3, B3, m3, e3, t4, B4, m4, e4, rfl, j3, j4, d2⟩
            replace hS := bthen hS d2
            (replace j2 := j2.call d2); (replace pz8 := pz8.call d2); (replace pz7 := pz7.call d2)
            first | (with_reducible refine hK.out _ _ hS (fun _ => ?_)) | (go_wp2_with fail; with_reducible refine hK.out _ _ hS (fun _ => ?_))
            clear hK K
            rw [HEF2.out] at j3
            (try simp only [Act.put, List.setIfInBounds_toArray, List.set_cons_zero, List.set_cons_succ])
            refine wpAnyH_take (i := 4) (oi := ⟨_, _, _, _, _, _⟩) (v := ?_) rfl (by kernel_rfl) (by kernel_rfl) (by kernel_rfl) (fun _ _ _ h => h) (Or.inl ⟨by rfl, ?_⟩) hS ?_
            rotate_left
            · intro w' hS'; (first | (go_simp; done) | (go_simp; with_reducible rfl) | with_reducible rfl)
            (try simp only [Act.put, List.setIfInBounds_toArray, List.set_cons_zero, List.set_cons_succ])
            refine wpAnyH_take (i := 5) (oi := ⟨_, _, _, _, _, _⟩) (v := ?_) rfl (by kernel_rfl) (by kernel_rfl) (by kernel_rfl) (fun _ _ _ h => h) (Or.inl ⟨by rfl, ?_⟩) hS ?_
            rotate_left
            · intro w' hS'; (first | (go_simp; done) | (go_simp; with_reducible rfl) | with_reducible rfl)
            (try simp only [Act.put, List.setIfInBounds_toArray, List.set_cons_zero, List.set_cons_succ])
            refine wpAnyH_take (i := 6) (oi := ⟨_, _, _, _, _, _⟩) (v := ?_) rfl (by kernel_rfl) (by kernel_rfl) (by kernel_rfl) (fun _ _ _ h => h) (Or.inl ⟨by rfl, ?_⟩) hS ?_
            rotate_left
            · intro w' hS'; (first | (go_simp; done) | (go_simp; with_reducible rfl) | with_reducible rfl)
            (try simp only [Act.put, List.setIfInBounds_toArray, List.set_cons_zero, List.set_cons_succ])
            refine wpAnyH_take (i := 7) (oi := ⟨_, _, _, _, _, _⟩) (v := ?_) rfl (by kernel_rfl) (by kernel_rfl) (by kernel_rfl) (fun _ _ _ h => h) (Or.inl ⟨by rfl, ?_⟩) hS ?_
            rotate_left
            · intro w' hS'; (first | (go_simp; done) | (go_simp; with_reducible rfl) | with_reducible rfl)
            (try simp only [Act.put, List.setIfInBounds_toArray, List.set_cons_zero, List.set_cons_succ])
            refine wpAnyH_ready (rs := [10]) (by kernel_rfl) (by simp) ?_
            refine AllReadyH.cons (o := ⟨_, _, _, _, _, _⟩) rfl (fun K hK => ?_) AllReadyH.nil
            obtain ⟨q0, q1, f0, f1, k0, k1⟩ := pz7.all (.bool t3) (.slice B3 m3 e3)
            go_simp
            replace hS := below_stored hS hz7 (.bool t3) (.slice B3 m3 e3)
            refine hK.out _ _ hS (fun _ => ?_)
            clear hK K q0 q1 f0 f1 k0 k1
            replace j2 := j2.stored pz7 (.bool t3) (.slice B3 m3 e3)
            replace j3 := j3.stored pz7 (.bool t3) (.slice B3 m3 e3)
            replace j4 := j4.stored pz7 (.bool t3) (.slice B3 m3 e3)
            replace pz8 := pz8.far (g' := gz7) (by omega) (.bool t3) (.slice B3 m3 e3)
            replace pz7 := pz7.stored (s' := t3) (A' := B3) (n' := m3) (c' := e3)
            (try simp only [Act.put, List.setIfInBounds_toArray, List.set_cons_zero, List.set_cons_succ])
            refine wpAnyH_ready (rs := [11]) (by kernel_rfl) (by simp) ?_
            refine AllReadyH.cons (o := ⟨_, _, _, _, _, _⟩) rfl (fun K hK => ?_) AllReadyH.nil
            obtain ⟨q0, q1, f0, f1, k0, k1⟩ := pz8.all (.bool t4) (.slice B4 m4 e4)
            go_simp
            replace hS := below_stored hS hz8 (.bool t4) (.slice B4 m4 e4)
            refine hK.out _ _ hS (fun _ => ?_)
            clear hK K q0 q1 f0 f1 k0 k1
            replace j2 := j2.stored pz8 (.bool t4) (.slice B4 m4 e4)
            replace j3 := j3.stored pz8 (.bool t4) (.slice B4 m4 e4)
            replace j4 := j4.stored pz8 (.bool t4) (.slice B4 m4 e4)
            replace pz7 := pz7.far (g' := gz8) (by omega) (.bool t4) (.slice B4 m4 e4)
            replace pz8 := pz8.stored (s' := t4) (A' := B4) (n' := m4) (c' := e4)
            (try simp only [Act.put, List.setIfInBounds_toArray, List.set_cons_zero, List.set_cons_succ])
            refine wpAnyH_take (i := 12) (oi := ⟨_, _, _, _, _, _⟩) (v := ?_) rfl (by kernel_rfl) (by kernel_rfl) (by kernel_rfl) (fun _ _ _ h => h) (Or.inl ⟨by rfl, ?_⟩) hS ?_
            rotate_left
            · intro w' hS'; (first | (go_simp; done) | (go_simp; with_reducible rfl) | with_reducible rfl)
            (try simp only [Act.put, List.setIfInBounds_toArray, List.set_cons_zero, List.set_cons_succ])
            refine wpAnyH_done (by kernel_rfl) ?_ _
            go_wp2_with fail
            go_meet
            case rel => exact ⟨gz7, gz8, rfl, rfl, by omega, by omega, by omega, by omega, by omega, by omega, by omega, by omega, by omega, by omega, by omega, ⟨⟨(p2.call hS), (i2.call hS)⟩, ⟨(p3.call hS), (i3.call hS)⟩, ⟨_, _, _, _, (p4.call hS), (j1.call hS)⟩, (p5.call hS), (p6.call hS), ⟨_, _, _, _, pz7, j3⟩, ⟨_, _, _, _, pz8, j4⟩, (bthen hW hS)⟩⟩
      · go_simp
        have pz7 := Pr.new u0 false none 0 0
        have az := bone u0 (.cells #[.bool false, .slice none 0 0] 24)
        have hz7 := hS.size
        replace hS := bthen hS az
        refine hK.out _ _ hS (fun _ => ?_)
        clear hK K az
        generalize hgz : u0.heap.size = gz7 at hz7 pz7 ⊢
        clear hgz
        generalize u0.alloc (.cells #[.bool false, .slice none 0 0] 24) = u0z7 at *
        (try simp only [Act.put, List.setIfInBounds_toArray, List.set_cons_zero, List.set_cons_succ])
        refine wpAnyH_ready (rs := [1, 9]) (by kernel_rfl) (by simp) ?_
        refine AllReadyH.cons (o := ⟨_, _, _, _, _, _⟩) rfl (fun K hK => ?_) (AllReadyH.cons (o := ⟨_, _, _, _, _, _⟩) rfl (fun K hK => ?_) AllReadyH.nil)
        · go_simp
          refine (abs_any _ (i3.call hS) (by omega)).mono ?_
          rintro e u1 ⟨t2, B2, m2, e2, rfl, j2, d1⟩
          replace hS := bthen hS d1
          (replace pz7 := pz7.call d1)
          first | (with_reducible refine hK.out _ _ hS (fun _ => ?_)) | (go_wp2_with fail; with_reducible refine hK.out _ _ hS (fun _ => ?_))
          clear hK K
          (try simp only [Act.put, List.setIfInBounds_toArray, List.set_cons_zero, List.set_cons_succ])
          refine wpAnyH_ready (rs := [3, 9]) (by kernel_rfl) (by simp) ?_
          refine AllReadyH.cons (o := ⟨_, _, _, _, _, _⟩) rfl (fun K hK => ?_) (AllReadyH.cons (o := ⟨_, _, _, _, _, _⟩) rfl (fun K hK => ?_) AllReadyH.nil)
          · go_simp
            refine (divMod_ne _ j2.any (j1.call hS).any (Nat.le_trans (j2.len LY.abs) (by omega)) (by omega) hgz).mono ?_
            rintro e u2 ⟨t3, B3, m3, e3, t4, B4, m4, e4, rfl, j3, j4, d2⟩
            replace hS := bthen hS d2
            (replace j2 := j2.call d2); (replace pz7 := pz7.call d2)
            first | (with_reducible refine hK.out _ _ hS (fun _ => ?_)) | (go_wp2_with fail; with_reducible refine hK.out _ _ hS (fun _ => ?_))
            clear hK K
            rw [HEF2.out] at j3
            (try simp only [Act.put, List.setIfInBounds_toArray, List.set_cons_zero, List.set_cons_succ])
            refine wpAnyH_take (i := 4) (oi := ⟨_, _, _, _, _, _⟩) (v := ?_) rfl (by kernel_rfl) (by kernel_rfl) (by kernel_rfl) (fun _ _ _ h => h) (Or.inl ⟨by rfl, ?_⟩) hS ?_
            rotate_left
            · intro w' hS'; (first | (go_simp; done) | (go_simp; with_reducible rfl) | with_reducible rfl)
            (try simp only [Act.put, List.setIfInBounds_toArray, List.set_cons_zero, List.set_cons_succ])
            refine wpAnyH_take (i := 5) (oi := ⟨_, _, _, _, _, _⟩) (v := ?_) rfl (by kernel_rfl) (by kernel_rfl) (by kernel_rfl) (fun _ _ _ h => h) (Or.inl ⟨by rfl, ?_⟩) hS ?_
            rotate_left
            · intro w' hS'; (first | (go_simp; done) | (go_simp; with_reducible rfl) | with_reducible rfl)
            (try simp only [Act.put, List.setIfInBounds_toArray, List.set_cons_zero, List.set_cons_succ])
            refine wpAnyH_take (i := 6) (oi := ⟨_, _, _, _, _, _⟩) (v := ?_) rfl (by kernel_rfl) (by kernel_rfl) (by kernel_rfl) (fun _ _ _ h => h) (Or.inl ⟨by rfl, ?_⟩) hS ?_
            rotate_left
            · intro w' hS'; (first | (go_simp; done) | (go_simp; with_reducible rfl) | with_reducible rfl)
            (try simp only [Act.put, List.setIfInBounds_toArray, List.set_cons_zero, List.set_cons_succ])
            refine wpAnyH_take (i := 7) (oi := ⟨_, _, _, _, _, _⟩) (v := ?_) rfl (by kernel_rfl) (by kernel_rfl) (by kernel_rfl) (fun _ _ _ h => h) (Or.inl ⟨by rfl, ?_⟩) hS ?_
            rotate_left
            · intro w' hS'; (first | (go_simp; done) | (go_simp; with_reducible rfl) | with_reducible rfl)
            (try simp only [Act.put, List.setIfInBounds_toArray, List.set_cons_zero, List.set_cons_succ])
            refine wpAnyH_ready (rs := [9]) (by kernel_rfl) (by simp) ?_
            refine AllReadyH.cons (o := ⟨_, _, _, _, _, _⟩) rfl (fun K hK => ?_) AllReadyH.nil
            go_simp
            have pz8 := Pr.new u2 false none 0 0
            have az := bone u2 (.cells #[.bool false, .slice none 0 0] 24)
            have hz8 := hS.size
            have lt7_8 := pz7.lt
            replace hS := bthen hS az
            (replace j2 := j2.call az); (replace j3 := j3.call az); (replace j4 := j4.call az); (replace pz7 := pz7.call az)
            refine hK.out _ _ hS (fun _ => ?_)
            clear hK K az
            generalize hgz : u2.heap.size = gz8 at hz8 pz8 ⊢ lt7_8
            clear hgz
            generalize u2.alloc (.cells #[.bool false, .slice none 0 0] 24) = u2z8 at *
            (try simp only [Act.put, List.setIfInBounds_toArray, List.set_cons_zero, List.set_cons_succ])
            refine wpAnyH_ready (rs := [10]) (by kernel_rfl) (by simp) ?_
            refine AllReadyH.cons (o := ⟨_, _, _, _, _, _⟩) rfl (fun K hK => ?_) AllReadyH.nil
            obtain ⟨q0, q1, f0, f1, k0, k1⟩ := pz7.all (.bool t3) (.slice B3 m3 e3)
            go_simp
            replace hS := below_stored hS hz7 (.bool t3) (.slice B3 m3 e3)
            refine hK.out _ _ hS (fun _ => ?_)
            clear hK K q0 q1 f0 f1 k0 k1
            replace j2 := j2.stored pz7 (.bool t3) (.slice B3 m3 e3)
            replace j3 := j3.stored pz7 (.bool t3) (.slice B3 m3 e3)
            replace j4 := j4.stored pz7 (.bool t3) (.slice B3 m3 e3)
            replace pz8 := pz8.far (g' := gz7) (by omega) (.bool t3) (.slice B3 m3 e3)
            replace pz7 := pz7.stored (s' := t3) (A' := B3) (n' := m3) (c' := e3)
            (try simp only [Act.put, List.setIfInBounds_toArray, List.set_cons_zero, List.set_cons_succ])
            refine wpAnyH_ready (rs := [11]) (by kernel_rfl) (by simp) ?_
            refine AllReadyH.cons (o := ⟨_, _, _, _, _, _⟩) rfl (fun K hK => ?_) AllReadyH.nil
            obtain ⟨q0, q1, f0, f1, k0, k1⟩ := pz8.all (.bool t4) (.slice B4 m4 e4)
            go_simp
            replace hS := below_stored hS hz8 (.bool t4) (.slice B4 m4 e4)
            refine hK.out _ _ hS (fun _ => ?_)
            clear hK K q0 q1 f0 f1 k0 k1
            replace j2 := j2.stored pz8 (.bool t4) (.slice B4 m4 e4)
            replace j3 := j3.stored pz8 (.bool t4) (.slice B4 m4 e4)
            replace j4 := j4.stored pz8 (.bool t4) (.slice B4 m4 e4)
            replace pz7 := pz7.far (g' := gz8) (by omega) (.bool t4) (.slice B4 m4 e4)
            replace pz8 := pz8.stored (s' := t4) (A' := B4) (n' := m4) (c' := e4)
            (try simp only [Act.put, List.setIfInBounds_toArray, List.set_cons_zero, List.set_cons_succ])
            refine wpAnyH_take (i := 12) (oi := ⟨_, _, _, _, _, _⟩) (v := ?_) rfl (by kernel_rfl) (by kernel_rfl) (by kernel_rfl) (fun _ _ _ h => h) (Or.inl ⟨by rfl, ?_⟩) hS ?_
            rotate_left
            · intro w' hS'; (first | (go_simp; done) | (go_simp; with_reducible rfl) | with_reducible rfl)
            (try simp only [Act.put, List.setIfInBounds_toArray, List.set_cons_zero, List.set_cons_succ])
            refine wpAnyH_done (by kernel_rfl) ?_ _
            go_wp2_with fail
            go_meet
            case rel => exact ⟨gz7, gz8, rfl, rfl, by omega, by omega, by omega, by omega, by omega, by omega, by omega, by omega, by omega, by omega, by omega, ⟨⟨(p2.call hS), (i2.call hS)⟩, ⟨(p3.call hS), (i3.call hS)⟩, ⟨_, _, _, _, (p4.call hS), (j1.call hS)⟩, (p5.call hS), (p6.call hS), ⟨_, _, _, _, pz7, j3⟩, ⟨_, _, _, _, pz8, j4⟩, (bthen hW hS)⟩⟩
          · go_simp
            have pz8 := Pr.new u1 false none 0 0
            have az := bone u1 (.cells #[.bool false, .slice none 0 0] 24)
            have hz8 := hS.size
            have lt7_8 := pz7.lt
            replace hS := bthen hS az
            (replace j2 := j2.call az); (replace pz7 := pz7.call az)
            refine hK.out _ _ hS (fun _ => ?_)
            clear hK K az
            generalize hgz : u1.heap.size = gz8 at hz8 pz8 ⊢ lt7_8
            clear hgz
            generalize u1.alloc (.cells #[.bool false, .slice none 0 0] 24) = u1z8 at *
            (try simp only [Act.put, List.setIfInBounds_toArray, List.set_cons_zero, List.set_cons_succ])
            refine wpAnyH_ready (rs := [3]) (by kernel_rfl) (by simp) ?_
            refine AllReadyH.cons (o := ⟨_, _, _, _, _, _⟩) rfl (fun K hK => ?_) AllReadyH.nil
            go_simp
            refine (divMod_ne _ j2.any (j1.call hS).any (Nat.le_trans (j2.len LY.abs) (by omega)) (by omega) hgz).mono ?_
            rintro e u2 ⟨t3, B3, m3, e3, t4, B4, m4, e4, rfl, j3, j4, d2⟩
            replace hS := bthen hS d2
            (replace j2 := j2.call d2); (replace pz7 := pz7.call d2); (replace pz8 := pz8.call d2)
            first | (with_reducible refine hK.out _ _ hS (fun _ => ?_)) | (go_wp2_with fail; with_reducible refine hK.out _ _ hS (fun _ => ?_))
            clear hK K
            rw [HEF2.out] at j3
            (try simp only [Act.put, List.setIfInBounds_toArray, List.set_cons_zero, List.set_cons_succ])
            refine wpAnyH_take (i := 4) (oi := ⟨_, _, _, _, _, _⟩) (v := ?_) rfl (by kernel_rfl) (by kernel_rfl) (by kernel_rfl) (fun _ _ _ h => h) (Or.inl ⟨by rfl, ?_⟩) hS ?_
            rotate_left
            · intro w' hS'; (first | (go_simp; done) | (go_simp; with_reducible rfl) | with_reducible rfl)
            (try simp only [Act.put, List.setIfInBounds_toArray, List.set_cons_zero, List.set_cons_succ])
            refine wpAnyH_take (i := 5) (oi := ⟨_, _, _, _, _, _⟩) (v := ?_) rfl (by kernel_rfl) (by kernel_rfl) (by kernel_rfl) (fun _ _ _ h => h) (Or.inl ⟨by rfl, ?_⟩) hS ?_
            rotate_left
            · intro w' hS'; (first | (go_simp; done) | (go_simp; with_reducible rfl) | with_reducible rfl)
            (try simp only [Act.put, List.setIfInBounds_toArray, List.set_cons_zero, List.set_cons_succ])
            refine wpAnyH_take (i := 6) (oi := ⟨_, _, _, _, _, _⟩) (v := ?_) rfl (by kernel_rfl) (by kernel_rfl) (by kernel_rfl) (fun _ _ _ h => h) (Or.inl ⟨by rfl, ?_⟩) hS ?_
            rotate_left
            · intro w' hS'; (first | (go_simp; done) | (go_simp; with_reducible rfl) | with_reducible rfl)
            (try simp only [Act.put, List.setIfInBounds_toArray, List.set_cons_zero, List.set_cons_succ])
            refine wpAnyH_take (i := 7) (oi := ⟨_, _, _, _, _, _⟩) (v := ?_) rfl (by kernel_rfl) (by kernel_rfl) (by kernel_rfl) (fun _ _ _ h => h) (Or.inl ⟨by rfl, ?_⟩) hS ?_
            rotate_left
            · intro w' hS'; (first | (go_simp; done) | (go_simp; with_reducible rfl) | with_reducible rfl)
            (try simp only [Act.put, List.setIfInBounds_toArray, List.set_cons_zero, List.set_cons_succ])
            refine wpAnyH_ready (rs := [10]) (by kernel_rfl) (by simp) ?_
            refine AllReadyH.cons (o := ⟨_, _, _, _, _, _⟩) rfl (fun K hK => ?_) AllReadyH.nil
            obtain ⟨q0, q1, f0, f1, k0, k1⟩ := pz7.all (.bool t3) (.slice B3 m3 e3)
            go_simp
            replace hS := below_stored hS hz7 (.bool t3) (.slice B3 m3 e3)
            refine hK.out _ _ hS (fun _ => ?_)
            clear hK K q0 q1 f0 f1 k0 k1
            replace j2 := j2.stored pz7 (.bool t3) (.slice B3 m3 e3)
            replace j3 := j3.stored pz7 (.bool t3) (.slice B3 m3 e3)
            replace j4 := j4.stored pz7 (.bool t3) (.slice B3 m3 e3)
            replace pz8 := pz8.far (g' := gz7) (by omega) (.bool t3) (.slice B3 m3 e3)
            replace pz7 := pz7.stored (s' := t3) (A' := B3) (n' := m3) (c' := e3)
            (try simp only [Act.put, List.setIfInBounds_toArray, List.set_cons_zero, List.set_cons_succ])
            refine wpAnyH_ready (rs := [11]) (by kernel_rfl) (by simp) ?_
            refine AllReadyH.cons (o := ⟨_, _, _, _, _, _⟩) rfl (fun K hK => ?_) AllReadyH.nil
            obtain ⟨q0, q1, f0, f1, k0, k1⟩ := pz8.all (.bool t4) (.slice B4 m4 e4)
            go_simp
            replace hS := below_stored hS hz8 (.bool t4) (.slice B4 m4 e4)
            refine hK.out _ _ hS (fun _ => ?_)
            clear hK K q0 q1 f0 f1 k0 k1
            replace j2 := j2.stored pz8 (.bool t4) (.slice B4 m4 e4)
            replace j3 := j3.stored pz8 (.bool t4) (.slice B4 m4 e4)
            replace j4 := j4.stored pz8 (.bool t4) (.slice B4 m4 e4)
            replace pz7 := pz7.far (g' := gz8) (by omega) (.bool t4) (.slice B4 m4 e4)
            replace pz8 := pz8.stored (s' := t4) (A' := B4) (n' := m4) (c' := e4)
            (try simp only [Act.put, List.setIfInBounds_toArray, List.set_cons_zero, List.set_cons_succ])
            refine wpAnyH_take (i := 12) (oi := ⟨_, _, _, _, _, _⟩) (v := ?_) rfl (by kernel_rfl) (by kernel_rfl) (by kernel_rfl) (fun _ _ _ h => h) (Or.inl ⟨by rfl, ?_⟩) hS ?_
            rotate_left
            · intro w' hS'; (first | (go_simp; done) | (go_simp; with_reducible rfl) | with_reducible rfl)
            (try simp only [Act.put, List.setIfInBounds_toArray, List.set_cons_zero, List.set_cons_succ])
            refine wpAnyH_done (by kernel_rfl) ?_ _
            go_wp2_with fail
            go_meet
            case rel => exact ⟨gz7, gz8, rfl, rfl, by omega, by omega, by omega, by omega, by omega, by omega, by omega, by omega, by omega, by omega, by omega, ⟨⟨(p2.call hS), (i2.call hS)⟩, ⟨(p3.call hS), (i3.call hS)⟩, ⟨_, _, _, _, (p4.call hS), (j1.call hS)⟩, (p5.call hS), (p6.call hS), ⟨_, _, _, _, pz7, j3⟩, ⟨_, _, _, _, pz8, j4⟩, (bthen hW hS)⟩⟩
        · go_simp
          have pz8 := Pr.new u0z7 false none 0 0
          have az := bone u0z7 (.cells #[.bool false, .slice none 0 0] 24)
          have hz8 := hS.size
          have lt7_8 := pz7.lt
          replace hS := bthen hS az
          (replace pz7 := pz7.call az)
          refine hK.out _ _ hS (fun _ => ?_)
          clear hK K az
          generalize hgz : u0z7.heap.size = gz8 at hz8 pz8 ⊢ lt7_8
          clear hgz
          generalize u0z7.alloc (.cells #[.bool false, .slice none 0 0] 24) = u0z7z8 at *
          (try simp only [Act.put, List.setIfInBounds_toArray, List.set_cons_zero, List.set_cons_succ])
          refine wpAnyH_ready (rs := [1]) (by kernel_rfl) (by simp) ?_
          refine AllReadyH.cons (o := ⟨_, _, _, _, _, _⟩) rfl (fun K hK => ?_) AllReadyH.nil
          go_simp
          refine (abs_any _ (i3.call hS) (by omega)).mono ?_
          rintro e u1 ⟨t2, B2, m2, e2, rfl, j2, d1⟩
          replace hS := bthen hS d1
          (replace pz7 := pz7.call d1); (replace pz8 := pz8.call d1)
          first | (with_reducible refine hK.out _ _ hS (fun _ => ?_)) | (go_wp2_with fail; with_reducible refine hK.out _ _ hS (fun _ => ?_))
          clear hK K
          (try simp only [Act.put, List.setIfInBounds_toArray, List.set_cons_zero, List.set_cons_succ])
          refine wpAnyH_ready (rs := [3]) (by kernel_rfl) (by simp) ?_
          refine AllReadyH.cons (o := ⟨_, _, _, _, _, _⟩) rfl (fun K hK => ?_) AllReadyH.nil
          go_simp
          refine (divMod_ne _ j2.any (j1.call hS).any (Nat.le_trans (j2.len LY.abs) (by omega)) (by omega) hgz).mono ?_
          rintro e u2 ⟨t3, B3, m3, e3, t4, B4, m4, e4, rfl, j3, j4, d2⟩
          replace hS := bthen hS d2
          (replace j2 := j2.call d2); (replace pz7 := pz7.call d2); (replace pz8 := pz8.call d2)
          first | (with_reducible refine hK.out _ _ hS (fun _ => ?_)) | (go_wp2_with fail; with_reducible refine hK.out _ _ hS (fun _ => ?_))
          clear hK K
          rw [HEF2.out] at j3
          (try simp only [Act.put, List.setIfInBounds_toArray, List.set_cons_zero, List.set_cons_succ])
          refine wpAnyH_take (i := 4) (oi := ⟨_, _, _, _, _, _⟩) (v := ?_) rfl (by kernel_rfl) (by kernel_rfl) (by kernel_rfl) (fun _ _ _ h => h) (Or.inl ⟨by rfl, ?_⟩) hS ?_
          rotate_left
          · intro w' hS'; (first | (go_simp; done) | (go_simp; with_reducible rfl) | with_reducible rfl)
          (try simp only [Act.put, List.setIfInBounds_toArray, List.set_cons_zero, List.set_cons_succ])
          refine wpAnyH_take (i := 5) (oi := ⟨_, _, _, _, _, _⟩) (v := ?_) rfl (by kernel_rfl) (by kernel_rfl) (by kernel_rfl) (fun _ _ _ h => h) (Or.inl ⟨by rfl, ?_⟩) hS ?_
          rotate_left
          · intro w' hS'; (first | (go_simp; done) | (go_simp; with_reducible rfl) | with_reducible rfl)
          (try simp only [Act.put, List.setIfInBounds_toArray, List.set_cons_zero, List.set_cons_succ])
          refine wpAnyH_take (i := 6) (oi := ⟨_, _, _, _, _, _⟩) (v := ?_) rfl (by kernel_rfl) (by kernel_rfl) (by kernel_rfl) (fun _ _ _ h => h) (Or.inl ⟨by rfl, ?_⟩) hS ?_
          rotate_left
          · intro w' hS'; (first | (go_simp; done) | (go_simp; with_reducible rfl) | with_reducible rfl)
          (try simp only [Act.put, List.setIfInBounds_toArray, List.set_cons_zero, List.set_cons_succ])
          refine wpAnyH_take (i := 7) (oi := ⟨_, _, _, _, _, _⟩) (v := ?_) rfl (by kernel_rfl) (by kernel_rfl) (by kernel_rfl) (fun _ _ _ h => h) (Or.inl ⟨by rfl, ?_⟩) hS ?_
          rotate_left
          · intro w' hS'; (first | (go_simp; done) | (go_simp; with_reducible rfl) | with_reducible rfl)
          (try simp only [Act.put, List.setIfInBounds_toArray, List.set_cons_zero, List.set_cons_succ])
          refine wpAnyH_ready (rs := [10]) (by kernel_rfl) (by simp) ?_
          refine AllReadyH.cons (o := ⟨_, _, _, _, _, _⟩) rfl (fun K hK => ?_) AllReadyH.nil
          obtain ⟨q0, q1, f0, f1, k0, k1⟩ := pz7.all (.bool t3) (.slice B3 m3 e3)
          go_simp
          replace hS := below_stored hS hz7 (.bool t3) (.slice B3 m3 e3)
          refine hK.out _ _ hS (fun _ => ?_)
          clear hK K q0 q1 f0 f1 k0 k1
          replace j2 := j2.stored pz7 (.bool t3) (.slice B3 m3 e3)
          replace j3 := j3.stored pz7 (.bool t3) (.slice B3 m3 e3)
          replace j4 := j4.stored pz7 (.bool t3) (.slice B3 m3 e3)
          replace pz8 := pz8.far (g' := gz7) (by omega) (.bool t3) (.slice B3 m3 e3)
          replace pz7 := pz7.stored (s' := t3) (A' := B3) (n' := m3) (c' := e3)
          (try simp only [Act.put, List.setIfInBounds_toArray, List.set_cons_zero, List.set_cons_succ])
          refine wpAnyH_ready (rs := [11]) (by kernel_rfl) (by simp) ?_
          refine AllReadyH.cons (o := ⟨_, _, _, _, _, _⟩) rfl (fun K hK => ?_) AllReadyH.nil
          obtain ⟨q0, q1, f0, f1, k0, k1⟩ := pz8.all (.bool t4) (.slice B4 m4 e4)
          go_simp
          replace hS := below_stored hS hz8 (.bool t4) (.slice B4 m4 e4)
          refine hK.out _ _ hS (fun _ => ?_)
          clear hK K q0 q1 f0 f1 k0 k1
          replace j2 := j2.stored pz8 (.bool t4) (.slice B4 m4 e4)
          replace j3 := j3.stored pz8 (.bool t4) (.slice B4 m4 e4)
          replace j4 := j4.stored pz8 (.bool t4) (.slice B4 m4 e4)
          replace pz7 := pz7.far (g' := gz8) (by omega) (.bool t4) (.slice B4 m4 e4)
          replace pz8 := pz8.stored (s' := t4) (A' := B4) (n' := m4) (c' := e4)
          (try simp only [Act.put, List.setIfInBounds_toArray, List.set_cons_zero, List.set_cons_succ])
          refine wpAnyH_take (i := 12) (oi := ⟨_, _, _, _, _, _⟩) (v := ?_) rfl (by kernel_rfl) (by kernel_rfl) (by kernel_rfl) (fun _ _ _ h => h) (Or.inl ⟨by rfl, ?_⟩) hS ?_
          rotate_left
          · intro w' hS'; (first | (go_simp; done) | (go_simp; with_reducible rfl) | with_reducible rfl)
          (try simp only [Act.put, List.setIfInBounds_toArray, List.set_cons_zero, List.set_cons_succ])
          refine wpAnyH_done (by kernel_rfl) ?_ _
          go_wp2_with fail
          go_meet
          case rel => exact ⟨gz7, gz8, rfl, rfl, by omega, by omega, by omega, by omega, by omega, by omega, by omega, by omega, by omega, by omega, by omega, ⟨⟨(p2.call hS), (i2.call hS)⟩, ⟨(p3.call hS), (i3.call hS)⟩, ⟨_, _, _, _, (p4.call hS), (j1.call hS)⟩, (p5.call hS), (p6.call hS), ⟨_, _, _, _, pz7, j3⟩, ⟨_, _, _, _, pz8, j4⟩, (bthen hW hS)⟩⟩
      · go_simp
        have pz8 := Pr.new u0 false none 0 0
        have az := bone u0 (.cells #[.bool false, .slice none 0 0] 24)
        have hz8 := hS.size
        replace hS := bthen hS az
        refine hK.out _ _ hS (fun _ => ?_)
        clear hK K az
        generalize hgz : u0.heap.size = gz8 at hz8 pz8 ⊢
        clear hgz
        generalize u0.alloc (.cells #[.bool false, .slice none 0 0] 24) = u0z8 at *
        (try simp only [Act.put, List.setIfInBounds_toArray, List.set_cons_zero, List.set_cons_succ])
        refine wpAnyH_ready (rs := [1, 8]) (by kernel_rfl) (by simp) ?_
        refine AllReadyH.cons (o := ⟨_, _, _, _, _, _⟩) rfl (fun K hK => ?_) (AllReadyH.cons (o := ⟨_, _, _, _, _, _⟩) rfl (fun K hK => ?_) AllReadyH.nil)
        · go_simp
          refine (abs_any _ (i3.call hS) (by omega)).mono ?_
          rintro e u1 ⟨t2, B2, m2, e2, rfl, j2, d1⟩
          replace hS := bthen hS d1
          (replace pz8 := pz8.call d1)
          first | (with_reducible refine hK.out _ _ hS (fun _ => ?_)) | (go_wp2_with fail; with_reducible refine hK.out _ _ hS (fun _ => ?_))
          clear hK K
          (try simp only [Act.put, List.setIfInBounds_toArray, List.set_cons_zero, List.set_cons_succ])
          refine wpAnyH_ready (rs := [3, 8]) (by kernel_rfl) (by simp) ?_
          refine AllReadyH.cons (o := ⟨_, _, _, _, _, _⟩) rfl (fun K hK => ?_) (AllReadyH.cons (o := ⟨_, _, _, _, _, _⟩) rfl (fun K hK => ?_) AllReadyH.nil)
          · go_simp
            refine (divMod_ne _ j2.any (j1.call hS).any (Nat.le_trans (j2.len LY.abs) (by omega)) (by omega) hgz).mono ?_
            rintro e u2 ⟨t3, B3, m3, e3, t4, B4, m4, e4, rfl, j3, j4, d2⟩
            replace hS := bthen hS d2
            (replace j2 := j2.call d2); (replace pz8 := pz8.call d2)
            first | (with_reducible refine hK.out _ _ hS (fun _ => ?_)) | (go_wp2_with fail; with_reducible refine hK.out _ _ hS (fun _ => ?_))
            clear hK K
            rw [HEF2.out] at j3
            (try simp only [Act.put, List.setIfInBounds_toArray, List.set_cons_zero, List.set_cons_succ])
            refine wpAnyH_take (i := 4) (oi := ⟨_, _, _, _, _, _⟩) (v := ?_) rfl (by kernel_rfl) (by kernel_rfl) (by kernel_rfl) (fun _ _ _ h => h) (Or.inl ⟨by rfl, ?_⟩) hS ?_
            rotate_left
            · intro w' hS'; (first | (go_simp; done) | (go_simp; with_reducible rfl) | with_reducible rfl)
            (try simp only [Act.put, List.setIfInBounds_toArray, List.set_cons_zero, List.set_cons_succ])
            refine wpAnyH_take (i := 5) (oi := ⟨_, _, _, _, _, _⟩) (v := ?_) rfl (by kernel_rfl) (by kernel_rfl) (by kernel_rfl) (fun _ _ _ h => h) (Or.inl ⟨by rfl, ?_⟩) hS ?_
            rotate_left
            · intro w' hS'; (first | (go_simp; done) | (go_simp; with_reducible rfl) | with_reducible rfl)
            (try simp only [Act.put, List.setIfInBounds_toArray, List.set_cons_zero, List.set_cons_succ])
            refine wpAnyH_take (i := 6) (oi := ⟨_, _, _, _, _, _⟩) (v := ?_) rfl (by kernel_rfl) (by kernel_rfl) (by kernel_rfl) (fun _ _ _ h => h) (Or.inl ⟨by rfl, ?_⟩) hS ?_
            rotate_left
            · intro w' hS'; (first | (go_simp; done) | (go_simp; with_reducible rfl) | with_reducible rfl)
            (try simp only [Act.put, List.setIfInBounds_toArray, List.set_cons_zero, List.set_cons_succ])
            refine wpAnyH_take (i := 7) (oi := ⟨_, _, _, _, _, _⟩) (v := ?_) rfl (by kernel_rfl) (by kernel_rfl) (by kernel_rfl) (fun _ _ _ h => h) (Or.inl ⟨by rfl, ?_⟩) hS ?_
            rotate_left
            · intro w' hS'; (first | (go_simp; done) | (go_simp; with_reducible rfl) | with_reducible rfl)
            (try simp only [Act.put, List.setIfInBounds_toArray, List.set_cons_zero, List.set_cons_succ])
            refine wpAnyH_ready (rs := [8]) (by kernel_rfl) (by simp) ?_
            refine AllReadyH.cons (o := ⟨_, _, _, _, _, _⟩) rfl (fun K hK => ?_) AllReadyH.nil
            go_simp
            have pz7 := Pr.new u2 false none 0 0
            have az := bone u2 (.cells #[.bool false, .slice none 0 0] 24)
            have hz7 := hS.size
            have lt8_7 := pz8.lt
            replace hS := bthen hS az
            (replace j2 := j2.call az); (replace j3 := j3.call az); (replace j4 := j4.call az); (replace pz8 := pz8.call az)
            refine hK.out _ _ hS (fun _ => ?_)
            clear hK K az
            generalize hgz : u2.heap.size = gz7 at hz7 pz7 ⊢ lt8_7
            clear hgz
            generalize u2.alloc (.cells #[.bool false, .slice none 0 0] 24) = u2z7 at *
            (try simp only [Act.put, List.setIfInBounds_toArray, List.set_cons_zero, List.set_cons_succ])
            refine wpAnyH_ready (rs := [10]) (by kernel_rfl) (by simp) ?_
            refine AllReadyH.cons (o := ⟨_, _, _, _, _, _⟩) rfl (fun K hK => ?_) AllReadyH.nil
            obtain ⟨q0, q1, f0, f1, k0, k1⟩ := pz7.all (.bool t3) (.slice B3 m3 e3)
            go_simp
            replace hS := below_stored hS hz7 (.bool t3) (.slice B3 m3 e3)
            refine hK.out _ _ hS (fun _ => ?_)
            clear hK K q0 q1 f0 f1 k0 k1
            replace j2 := j2.stored pz7 (.bool t3) (.slice B3 m3 e3)
            replace j3 := j3.stored pz7 (.bool t3) (.slice B3 m3 e3)
            replace j4 := j4.stored pz7 (.bool t3) (.slice B3 m3 e3)
            replace pz8 := pz8.far (g' := gz7) (by omega) (.bool t3) (.slice B3 m3 e3)
            replace pz7 := pz7.stored (s' := t3) (A' := B3) (n' := m3) (c' := e3)
            (try simp only [Act.put, List.setIfInBounds_toArray, List.set_cons_zero, List.set_cons_succ])
            refine wpAnyH_ready (rs := [11]) (by kernel_rfl) (by simp) ?_
            refine AllReadyH.cons (o := ⟨_, _, _, _, _, _⟩) rfl (fun K hK => ?_) AllReadyH.nil
            obtain ⟨q0, q1, f0, f1, k0, k1⟩ := pz8.all (.bool t4) (.slice B4 m4 e4)
            go_simp
            replace hS := below_stored hS hz8 (.bool t4) (.slice B4 m4 e4)
            refine hK.out _ _ hS (fun _ => ?_)
            clear hK K q0 q1 f0 f1 k0 k1
            replace j2 := j2.stored pz8 (.bool t4) (.slice B4 m4 e4)
            replace j3 := j3.stored pz8 (.bool t4) (.slice B4 m4 e4)
            replace j4 := j4.stored pz8 (.bool t4) (.slice B4 m4 e4)
            replace pz7 := pz7.far (g' := gz8) (by omega) (.bool t4) (.slice B4 m4 e4)
            replace pz8 := pz8.stored (s' := t4) (A' := B4) (n' := m4) (c' := e4)
            (try simp only [Act.put, List.setIfInBounds_toArray, List.set_cons_zero, List.set_cons_succ])
            refine wpAnyH_take (i := 12) (oi := ⟨_, _, _, _, _, _⟩) (v := ?_) rfl (by kernel_rfl) (by kernel_rfl) (by kernel_rfl) (fun _ _ _ h => h) (Or.inl ⟨by rfl, ?_⟩) hS ?_
            rotate_left
            · intro w' hS'; (first | (go_simp; done) | (go_simp; with_reducible rfl) | with_reducible rfl)
            (try simp only [Act.put, List.setIfInBounds_toArray, List.set_cons_zero, List.set_cons_succ])
            refine wpAnyH_done (by kernel_rfl) ?_ _
            go_wp2_with fail
            go_meet
            case rel => exact ⟨gz7, gz8, rfl, rfl, by omega, by omega, by omega, by omega, by omega, by omega, by omega, by omega, by omega, by omega, by omega, ⟨⟨(p2.call hS), (i2.call hS)⟩, ⟨(p3.call hS), (i3.call hS)⟩, ⟨_, _, _, _, (p4.call hS), (j1.call hS)⟩, (p5.call hS), (p6.call hS), ⟨_, _, _, _, pz7, j3⟩, ⟨_, _, _, _, pz8, j4⟩, (bthen hW hS)⟩⟩
          · go_simp
            have pz7 := Pr.new u1 false none 0 0
            have az := bone u1 (.cells #[.bool false, .slice none 0 0] 24)
            have hz7 := hS.size
            have lt8_7 := pz8.lt
            replace hS := bthen hS az
            (replace j2 := j2.call az); (replace pz8 := pz8.call az)
            refine hK.out _ _ hS (fun _ => ?_)
            clear hK K az
            generalize hgz : u1.heap.size = gz7 at hz7 pz7 ⊢ lt8_7
            clear hgz
            generalize u1.alloc (.cells #[.bool false, .slice none 0 0] 24) = u1z7 at *
            (try simp only [Act.put, List.setIfInBounds_toArray, List.set_cons_zero, List.set_cons_succ])
            refine wpAnyH_ready (rs := [3]) (by kernel_rfl) (by simp) ?_
            refine AllReadyH.cons (o := ⟨_, _, _, _, _, _⟩) rfl (fun K hK => ?_) AllReadyH.nil
            go_simp
            refine (divMod_ne _ j2.any (j1.call hS).any (Nat.le_trans (j2.len LY.abs) (by omega)) (by omega) hgz).mono ?_
            rintro e u2 ⟨t3, B3, m3, e3, t4, B4, m4, e4, rfl, j3, j4, d2⟩
            replace hS := bthen hS d2
            (replace j2 := j2.call d2); (replace pz8 := pz8.call d2); (replace pz7 := pz7.call d2)
            first | (with_reducible refine hK.out _ _ hS (fun _ => ?_)) | (go_wp2_with fail; with_reducible refine hK.out _ _ hS (fun _ => ?_))
            clear hK K
            rw [HEF2.out] at j3
            (try simp only [Act.put, List.setIfInBounds_toArray, List.set_cons_zero, List.set_cons_succ])
            refine wpAnyH_take (i := 4) (oi := ⟨_, _, _, _, _, _⟩) (v := ?_) rfl (by kernel_rfl) (by kernel_rfl) (by kernel_rfl) (fun _ _ _ h => h) (Or.inl ⟨by rfl, ?_⟩) hS ?_
            rotate_left
            · intro w' hS'; (first | (go_simp; done) | (go_simp; with_reducible rfl) | with_reducible rfl)
            (try simp only [Act.put, List.setIfInBounds_toArray, List.set_cons_zero, List.set_cons_succ])
            refine wpAnyH_take (i := 5) (oi := ⟨_, _, _, _, _, _⟩) (v := ?_) rfl (by kernel_rfl) (by kernel_rfl) (by kernel_rfl) (fun _ _ _ h => h) (Or.inl ⟨by rfl, ?_⟩) hS ?_
            rotate_left
            · intro w' hS'; (first | (go_simp; done) | (go_simp; with_reducible rfl) | with_reducible rfl)
            (try simp only [Act.put, List.setIfInBounds_toArray, List.set_cons_zero, List.set_cons_succ])
            refine wpAnyH_take (i := 6) (oi := ⟨_, _, _, _, _, _⟩) (v := ?_) rfl (by kernel_rfl) (by kernel_rfl) (by kernel_rfl) (fun _ _ _ h => h) (Or.inl ⟨by rfl, ?_⟩) hS ?_
            rotate_left
            · intro w' hS'; (first | (go_simp; done) | (go_simp; with_reducible rfl) | with_reducible rfl)
            (try simp only [Act.put, List.setIfInBounds_toArray, List.set_cons_zero, List.set_cons_succ])
            refine wpAnyH_take (i := 7) (oi := ⟨_, _, _, _, _, _⟩) (v := ?_) rfl (by kernel_rfl) (by kernel_rfl) (by kernel_rfl) (fun _ _ _ h => h) (Or.inl ⟨by rfl, ?_⟩) hS ?_
            rotate_left
            · intro w' hS'; (first | (go_simp; done) | (go_simp; with_reducible rfl) | with_reducible rfl)
            (try simp only [Act.put, List.setIfInBounds_toArray, List.set_cons_zero, List.set_cons_succ])
            refine wpAnyH_ready (rs := [10]) (by kernel_rfl) (by simp) ?_
            refine AllReadyH.cons (o := ⟨_, _, _, _, _, _⟩) rfl (fun K hK => ?_) AllReadyH.nil
            obtain ⟨q0, q1, f0, f1, k0, k1⟩ := pz7.all (.bool t3) (.slice B3 m3 e3)
            go_simp
            replace hS := below_stored hS hz7 (.bool t3) (.slice B3 m3 e3)
            refine hK.out _ _ hS (fun _ => ?_)
            clear hK K q0 q1 f0 f1 k0 k1
            replace j2 := j2.stored pz7 (.bool t3) (.slice B3 m3 e3)
            replace j3 := j3.stored pz7 (.bool t3) (.slice B3 m3 e3)
            replace j4 := j4.stored pz7 (.bool t3) (.slice B3 m3 e3)
            replace pz8 := pz8.far (g' := gz7) (by omega) (.bool t3) (.slice B3 m3 e3)
            replace pz7 := pz7.stored (s' := t3) (A' := B3) (n' := m3) (c' := e3)
            (try simp only [Act.put, List.setIfInBounds_toArray, List.set_cons_zero, List.set_cons_succ])
            refine wpAnyH_ready (rs := [11]) (by kernel_rfl) (by simp) ?_
            refine AllReadyH.cons (o := ⟨_, _, _, _, _, _⟩) rfl (fun K hK => ?_) AllReadyH.nil
            obtain ⟨q0, q1, f0, f1, k0, k1⟩ := pz8.all (.bool t4) (.slice B4 m4 e4)
            go_simp
            replace hS := below_stored hS hz8 (.bool t4) (.slice B4 m4 e4)
            refine hK.out _ _ hS (fun _ => ?_)
            clear hK K q0 q1 f0 f1 k0 k1
            replace j2 := j2.stored pz8 (.bool t4) (.slice B4 m4 e4)
            replace j3 := j3.stored pz8 (.bool t4) (.slice B4 m4 e4)
            replace j4 := j4.stored pz8 (.bool t4) (.slice B4 m4 e4)
            replace pz7 := pz7.far (g' := gz8) (by omega) (.bool t4) (.slice B4 m4 e4)
            replace pz8 := pz8.stored (s' := t4) (A' := B4) (n' := m4) (c' := e4)
            (try simp only [Act.put, List.setIfInBounds_toArray, List.set_cons_zero, List.set_cons_succ])
            refine wpAnyH_take (i := 12) (oi := ⟨_, _, _, _, _, _⟩) (v := ?_) rfl (by kernel_rfl) (by kernel_rfl) (by kernel_rfl) (fun _ _ _ h => h) (Or.inl ⟨by rfl, ?_⟩) hS ?_
            rotate_left
            · intro w' hS'; (first | (go_simp; done) | (go_simp; with_reducible rfl) | with_reducible rfl)
            (try simp only [Act.put, List.setIfInBounds_toArray, List.set_cons_zero, List.set_cons_succ])
            refine wpAnyH_done (by kernel_rfl) ?_ _
            go_wp2_with fail
            go_meet
            case rel => exact ⟨gz7, gz8, rfl, rfl, by omega, by omega, by omega, by omega, by omega, by omega, by omega, by omega, by omega, by omega, by omega, ⟨⟨(p2.call hS), (i2.call hS)⟩, ⟨(p3.call hS), (i3.call hS)⟩, ⟨_, _, _, _, (p4.call hS), (j1.call hS)⟩, (p5.call hS), (p6.call hS), ⟨_, _, _, _, pz7, j3⟩, ⟨_, _, _, _, pz8, j4⟩, (bthen hW hS)⟩⟩
        · go_simp
          have pz7 := Pr.new u0z8 false none 0 0
          have az := bone u0z8 (.cells #[.bool false, .slice none 0 0] 24)
          have hz7 := hS.size
          have lt8_7 := pz8.lt
          replace hS := bthen hS az
          (replace pz8 := pz8.call az)
          refine hK.out _ _ hS (fun _ => ?_)
          clear hK K az
          generalize hgz : u0z8.heap.size = gz7 at hz7 pz7 ⊢ lt8_7
          clear hgz
          generalize u0z8.alloc (.cells #[.bool false, .slice none 0 0] 24) = u0z8z7 at *
          (try simp only [Act.put, List.setIfInBounds_toArray, List.set_cons_zero, List.set_cons_succ])
          refine wpAnyH_ready (rs := [1]) (by kernel_rfl) (by simp) ?_
          refine AllReadyH.cons (o := ⟨_, _, _, _, _, _⟩) rfl (fun K hK => ?_) AllReadyH.nil
          go_simp
          refine (abs_any _ (i3.call hS) (by omega)).mono ?_
          rintro e u1 ⟨t2, B2, m2, e2, rfl, j2, d1⟩
          replace hS := bthen hS d1
          (replace pz8 := pz8.call d1); (replace pz7 := pz7.call d1)
          first | (with_reducible refine hK.out _ _ hS (fun _ => ?_)) | (go_wp2_with fail; with_reducible refine hK.out _ _ hS (fun _ => ?_))
          clear hK K
          (try simp only [Act.put, List.setIfInBounds_toArray, List.set_cons_zero, List.set_cons_succ])
          refine wpAnyH_ready (rs := [3]) (by kernel_rfl) (by simp) ?_
          refine AllReadyH.cons (o := ⟨_, _, _, _, _, _⟩) rfl (fun K hK => ?_) AllReadyH.nil
          go_simp
          refine (divMod_ne _ j2.any (j1.call hS).any (Nat.le_trans (j2.len LY.abs) (by omega)) (by omega) hgz).mono ?_
          rintro e u2 ⟨t3, B3, m3, e3, t4, B4, m4, e4, rfl, j3, j4, d2⟩
          replace hS := bthen hS d2
          (replace j2 := j2.call d2); (replace pz8 := pz8.call d2); (replace pz7 := pz7.call d2)
          first | (with_reducible refine hK.out _ _ hS (fun _ => ?_)) | (go_wp2_with fail; with_reducible refine hK.out _ _ hS (fun _ => ?_))
          clear hK K
          rw [HEF2.out] at j3
          (try simp only [Act.put, List.setIfInBounds_toArray, List.set_cons_zero, List.set_cons_succ])
          refine wpAnyH_take (i := 4) (oi := ⟨_, _, _, _, _, _⟩) (v := ?_) rfl (by kernel_rfl) (by kernel_rfl) (by kernel_rfl) (fun _ _ _ h => h) (Or.inl ⟨by rfl, ?_⟩) hS ?_
          rotate_left
          · intro w' hS'; (first | (go_simp; done) | (go_simp; with_reducible rfl) | with_reducible rfl)
          (try simp only [Act.put, List.setIfInBounds_toArray, List.set_cons_zero, List.set_cons_succ])
          refine wpAnyH_take (i := 5) (oi := ⟨_, _, _, _, _, _⟩) (v := ?_) rfl (by kernel_rfl) (by kernel_rfl) (by kernel_rfl) (fun _ _ _ h => h) (Or.inl ⟨by rfl, ?_⟩) hS ?_
          rotate_left
          · intro w' hS'; (first | (go_simp; done) | (go_simp; with_reducible rfl) | with_reducible rfl)
          (try simp only [Act.put, List.setIfInBounds_toArray, List.set_cons_zero, List.set_cons_succ])
          refine wpAnyH_take (i := 6) (oi := ⟨_, _, _, _, _, _⟩) (v := ?_) rfl (by kernel_rfl) (by kernel_rfl) (by kernel_rfl) (fun _ _ _ h => h) (Or.inl ⟨by rfl, ?_⟩) hS ?_
          rotate_left
          · intro w' hS'; (first | (go_simp; done) | (go_simp; with_reducible rfl) | with_reducible rfl)
          (try simp only [Act.put, List.setIfInBounds_toArray, List.set_cons_zero, List.set_cons_succ])
          refine wpAnyH_take (i := 7) (oi := ⟨_, _, _, _, _, _⟩) (v := ?_) rfl (by kernel_rfl) (by kernel_rfl) (by kernel_rfl) (fun _ _ _ h => h) (Or.inl ⟨by rfl, ?_⟩) hS ?_
          rotate_left
          · intro w' hS'; (first | (go_simp; done) | (go_simp; with_reducible rfl) | with_reducible rfl)
          (try simp only [Act.put, List.setIfInBounds_toArray, List.set_cons_zero, List.set_cons_succ])
          refine wpAnyH_ready (rs := [10]) (by kernel_rfl) (by simp) ?_
          refine AllReadyH.cons (o := ⟨_, _, _, _, _, _⟩) rfl (fun K hK => ?_) AllReadyH.nil
          obtain ⟨q0, q1, f0, f1, k0, k1⟩ := pz7.all (.bool t3) (.slice B3 m3 e3)
          go_simp
          replace hS := below_stored hS hz7 (.bool t3) (.slice B3 m3 e3)
          refine hK.out _ _ hS (fun _ => ?_)
          clear hK K q0 q1 f0 f1 k0 k1
          replace j2 := j2.stored pz7 (.bool t3) (.slice B3 m3 e3)
          replace j3 := j3.stored pz7 (.bool t3) (.slice B3 m3 e3)
          replace j4 := j4.stored pz7 (.bool t3) (.slice B3 m3 e3)
          replace pz8 := pz8.far (g' := gz7) (by omega) (.bool t3) (.slice B3 m3 e3)
          replace pz7 := pz7.stored (s' := t3) (A' := B3) (n' := m3) (c' := e3)
          (try simp only [Act.put, List.setIfInBounds_toArray, List.set_cons_zero, List.set_cons_succ])
          refine wpAnyH_ready (rs := [11]) (by kernel_rfl) (by simp) ?_
          refine AllReadyH.cons (o := ⟨_, _, _, _, _, _⟩) rfl (fun K hK => ?_) AllReadyH.nil
          obtain ⟨q0, q1, f0, f1, k0, k1⟩ := pz8.all (.bool t4) (.slice B4 m4 e4)
          go_simp
          replace hS := below_stored hS hz8 (.bool t4) (.slice B4 m4 e4)
          refine hK.out _ _ hS (fun _ => ?_)
          clear hK K q0 q1 f0 f1 k0 k1
          replace j2 := j2.stored pz8 (.bool t4) (.slice B4 m4 e4)
          replace j3 := j3.stored pz8 (.bool t4) (.slice B4 m4 e4)
          replace j4 := j4.stored pz8 (.bool t4) (.slice B4 m4 e4)
          replace pz7 := pz7.far (g' := gz8) (by omega) (.bool t4) (.slice B4 m4 e4)
          replace pz8 := pz8.stored (s' := t4) (A' := B4) (n' := m4) (c' := e4)
          (try simp only [Act.put, List.setIfInBounds_toArray, List.set_cons_zero, List.set_cons_succ])
          refine wpAnyH_take (i := 12) (oi := ⟨_, _, _, _, _, _⟩) (v := ?_) rfl (by kernel_rfl) (by kernel_rfl) (by kernel_rfl) (fun _ _ _ h => h) (Or.inl ⟨by rfl, ?_⟩) hS ?_
          rotate_left
          · intro w' hS'; (first | (go_simp; done) | (go_simp; with_reducible rfl) | with_reducible rfl)
          (try simp only [Act.put, List.setIfInBounds_toArray, List.set_cons_zero, List.set_cons_succ])
          refine wpAnyH_done (by kernel_rfl) ?_ _
          go_wp2_with fail
          go_meet
          case rel => exact ⟨gz7, gz8, rfl, rfl, by omega, by omega, by omega, by omega, by omega, by omega, by omega, by omega, by omega, by omega, by omega, ⟨⟨(p2.call hS), (i2.call hS)⟩, ⟨(p3.call hS), (i3.call hS)⟩, ⟨_, _, _, _, (p4.call hS), (j1.call hS)⟩, (p5.call hS), (p6.call hS), ⟨_, _, _, _, pz7, j3⟩, ⟨_, _, _, _, pz8, j4⟩, (bthen hW hS)⟩⟩
    case rest =>
      clear hW p2 p3 p4 p5 p6 i2 i3 j1
      obtain ⟨g7, g8, rfl, rfl, ne4_0, ne4_1, ne4_2, ne4_3, ne4_4, ne4_5, ne4_6, ne4_7, ne4_8, ne4_9, ne4_10, HB⟩ := hcut
      obtain ⟨⟨p2, i2⟩, ⟨p3, i3⟩, ⟨s4, A4, n4, c4, p4, i4⟩, p5, p6, ⟨s7, A7, n7, c7, p7, i7⟩, ⟨s8, A8, n8, c8, p8, i8⟩, hW⟩ := HB.out
      obtain ⟨X4, rfl⟩ : ∃ X : World, X = wc := ⟨_, rfl⟩
      clear HB
      have l4 := i4.len LG
      have l7 := i7.len LM
      clear p8 i8
      obtain ⟨o2_0, o2_1⟩ := p2.cells1
      obtain ⟨o4_0, o4_1⟩ := p4.cells1
      obtain ⟨o7_0, o7_1⟩ := p7.cells1
      go_wp2_with fail
      refine (HINV.out _ _ _ _ _ _ _ _ _ i2 i4 i7 l4 l7).mono ?_
      rintro e X5 ⟨s9, A9, n9, c9, rfl, j9, dX5⟩
      have zX5 := dX5.size
      have lX5_p2 := p2.lt
      have lX5_p3 := p3.lt
      have lX5_p4 := p4.lt
      have lX5_p5 := p5.lt
      have lX5_p6 := p6.lt
      have lX5_p7 := p7.lt
      (replace p2 := p2.call dX5); (replace p3 := p3.call dX5); (replace p4 := p4.call dX5); (replace p5 := p5.call dX5); (replace p6 := p6.call dX5); (replace p7 := p7.call dX5); (replace i2 := i2.call dX5); (replace i3 := i3.call dX5); (replace i4 := i4.call dX5); (replace i7 := i7.call dX5)
      replace hW := bthen hW dX5
      clear o2_0 o2_1 o4_0 o4_1 o7_0 o7_1
      obtain ⟨q0, q1, f0, f1, k0, k1⟩ := p5.all (.bool s9) (.slice A9 n9 c9)
      have hW_ := below_stored hW (g := w.heap.size + 1 + 1 + 1) (by omega) (.bool s9) (.slice A9 n9 c9)
      have p2_ := p2.far (g' := w.heap.size + 1 + 1 + 1) (by omega) (.bool s9) (.slice A9 n9 c9)
      have p3_ := p3.far (g' := w.heap.size + 1 + 1 + 1) (by omega) (.bool s9) (.slice A9 n9 c9)
      have p4_ := p4.far (g' := w.heap.size + 1 + 1 + 1) (by omega) (.bool s9) (.slice A9 n9 c9)
      have p5_ := p5.stored (s' := s9) (A' := A9) (n' := n9) (c' := c9)
      have p6_ := p6.far (g' := w.heap.size + 1 + 1 + 1) (by omega) (.bool s9) (.slice A9 n9 c9)
      have p7_ := p7.far (g' := w.heap.size + 1 + 1 + 1) (by omega) (.bool s9) (.slice A9 n9 c9)
      have i2_ := i2.stored p5 (.bool s9) (.slice A9 n9 c9)
      have i3_ := i3.stored p5 (.bool s9) (.slice A9 n9 c9)
      have i4_ := i4.stored p5 (.bool s9) (.slice A9 n9 c9)
      have i7_ := i7.stored p5 (.bool s9) (.slice A9 n9 c9)
      have j9_ := j9.stored p5 (.bool s9) (.slice A9 n9 c9)
      go_upto_region 6 with (fail)
      clear q0 q1 f0 f1 k0 k1 hW i2 i3 i4 i7 j9 p2 p3 p4 p5 p6 p7
      generalize (X5.setCell ⟨w.heap.size + 1 + 1 + 1, 0, none⟩ (.bool s9)).setCell ⟨w.heap.size + 1 + 1 + 1, 1, none⟩ (.slice A9 n9 c9) = X6 at *
      have hW := hW_; have i2 := i2_; have i3 := i3_; have i4 := i4_; have i7 := i7_; have j9 := j9_; have p2 := p2_; have p3 := p3_; have p4 := p4_; have p5 := p5_; have p6 := p6_; have p7 := p7_
      clear hW_ i2_ i3_ i4_ i7_ j9_ p2_ p3_ p4_ p5_ p6_ p7_
      have l9 := j9.len LXX
      clear p7 i7
      go_upto_region 6 with (fail)
      go_cut [10] (fun v10 wz => ∃ gz10 : Nat, v10 = .pointer (some ⟨gz10, 0, none⟩) ∧ w.heap.size < gz10 ∧ w.heap.size + 1 < gz10 ∧ w.heap.size + 1 + 1 < gz10 ∧ w.heap.size + 1 + 1 + 1 < gz10 ∧ w.heap.size + 1 + 1 + 1 + 1 < gz10 ∧ Hid ((Pr wz (w.heap.size) s A n c ∧ AInt wz s A n c (x)) ∧ (Pr wz (w.heap.size + 1) t A' n' c' ∧ AInt wz t A' n' c' (y)) ∧ Bx wz (w.heap.size + 1 + 1) ((g : Int)) ∧ Bx wz (w.heap.size + 1 + 1 + 1) (xx) ∧ Pr wz (w.heap.size + 1 + 1 + 1 + 1) false none 0 0 ∧ Bx wz (gz10) ((g : Int) - x * xx) ∧ Below w.heap.size w wz))
      case first =>
        have lo2 := p2.lt
        have lo3 := p3.lt
        have lo4 := p4.lt
        have lo5 := p5.lt
        have lo6 := p6.lt
        refine wp_region_held_drew (S := fun w' => Below X6.heap.size X6 w') (by kernel_rfl) (bdrew X6) (fun _ => ?_)
        have hS : Below X6.heap.size X6 X6.drew := bdrew X6
        generalize X6.drew = u0 at hS ⊢
        refine wpAnyH_take (i := 0) (oi := ⟨_, _, _, _, _, _⟩) (v := ?_) rfl (by kernel_rfl) (by kernel_rfl) (by kernel_rfl) (fun _ _ _ h => h) (Or.inl ⟨by rfl, ?_⟩) hS ?_
        rotate_left
        · intro w' hS'; have p' := p4.call hS'; have c0 := p'.cell0; have c1 := p'.cell1; (first | (go_simp; done) | (go_simp; with_reducible rfl) | with_reducible rfl)
        (try simp only [Act.put, List.setIfInBounds_toArray, List.set_cons_zero, List.set_cons_succ])
        refine wpAnyH_take (i := 1) (oi := ⟨_, _, _, _, _, _⟩) (v := ?_) rfl (by kernel_rfl) (by kernel_rfl) (by kernel_rfl) (fun _ _ _ h => h) (Or.inl ⟨by rfl, ?_⟩) hS ?_
        rotate_left
        · intro w' hS'; have p' := p2.call hS'; have c0 := p'.cell0; have c1 := p'.cell1; (first | (go_simp; done) | (go_simp; with_reducible rfl) | with_reducible rfl)
        (try simp only [Act.put, List.setIfInBounds_toArray, List.set_cons_zero, List.set_cons_succ])
        refine wpAnyH_take (i := 2) (oi := ⟨_, _, _, _, _, _⟩) (v := ?_) rfl (by kernel_rfl) (by kernel_rfl) (by kernel_rfl) (fun _ _ _ h => h) (Or.inl ⟨by rfl, ?_⟩) hS ?_
        rotate_left
        · intro w' hS'; have p' := p5.call hS'; have c0 := p'.cell0; have c1 := p'.cell1; (first | (go_simp; done) | (go_simp; with_reducible rfl) | with_reducible rfl)
        (try simp only [Act.put, List.setIfInBounds_toArray, List.set_cons_zero, List.set_cons_succ])
        refine wpAnyH_ready (rs := [3, 5]) (by kernel_rfl) (by simp) ?_
        refine AllReadyH.cons (o := ⟨_, _, _, _, _, _⟩) rfl (fun K hK => ?_) (AllReadyH.cons (o := ⟨_, _, _, _, _, _⟩) rfl (fun K hK => ?_) AllReadyH.nil)
        · go_simp
          refine (mul_any _ (i2.call hS) (j9.call hS).any (by omega) (by omega)).mono ?_
          rintro e u1 ⟨t1, B1, m1, e1, rfl, j1, d1⟩
          replace hS := bthen hS d1
          first | (with_reducible refine hK.out _ _ hS (fun _ => ?_)) | (go_wp2_with fail; with_reducible refine hK.out _ _ hS (fun _ => ?_))
          clear hK K
          (try simp only [Act.put, List.setIfInBounds_toArray, List.set_cons_zero, List.set_cons_succ])
          refine wpAnyH_ready (rs := [4, 5]) (by kernel_rfl) (by simp) ?_
          refine AllReadyH.cons (o := ⟨_, _, _, _, _, _⟩) rfl (fun K hK => ?_) (AllReadyH.cons (o := ⟨_, _, _, _, _, _⟩) rfl (fun K hK => ?_) AllReadyH.nil)
          · go_simp
            refine (sub_any _ (i4.call hS).any j1.any (by omega) (Nat.le_trans (j1.len LP.out) (by omega))).mono ?_
            rintro e u2 ⟨t2, B2, m2, e2, rfl, j2, d2⟩
            replace hS := bthen hS d2
            (replace j1 := j1.call d2)
            first | (with_reducible refine hK.out _ _ hS (fun _ => ?_)) | (go_wp2_with fail; with_reducible refine hK.out _ _ hS (fun _ => ?_))
            clear hK K
            (try simp only [Act.put, List.setIfInBounds_toArray, List.set_cons_zero, List.set_cons_succ])
            refine wpAnyH_ready (rs := [5]) (by kernel_rfl) (by simp) ?_
            refine AllReadyH.cons (o := ⟨_, _, _, _, _, _⟩) rfl (fun K hK => ?_) AllReadyH.nil
            go_simp
            have pz10 := Pr.new u2 false none 0 0
            have az := bone u2 (.cells #[.bool false, .slice none 0 0] 24)
            have hz10 := hS.size
            replace hS := bthen hS az
            (replace j1 := j1.call az); (replace j2 := j2.call az)
            refine hK.out _ _ hS (fun _ => ?_)
            clear hK K az
            generalize hgz : u2.heap.size = gz10 at hz10 pz10 ⊢
            clear hgz
            generalize u2.alloc (.cells #[.bool false, .slice none 0 0] 24) = u2z10 at *
            (try simp only [Act.put, List.setIfInBounds_toArray, List.set_cons_zero, List.set_cons_succ])
            refine wpAnyH_ready (rs := [6]) (by kernel_rfl) (by simp) ?_
            refine AllReadyH.cons (o := ⟨_, _, _, _, _, _⟩) rfl (fun K hK => ?_) AllReadyH.nil
            obtain ⟨q0, q1, f0, f1, k0, k1⟩ := pz10.all (.bool t2) (.slice B2 m2 e2)
            go_simp
            replace hS := below_stored hS hz10 (.bool t2) (.slice B2 m2 e2)
            refine hK.out _ _ hS (fun _ => ?_)
            clear hK K q0 q1 f0 f1 k0 k1
            replace j1 := j1.stored pz10 (.bool t2) (.slice B2 m2 e2)
            replace j2 := j2.stored pz10 (.bool t2) (.slice B2 m2 e2)
            replace pz10 := pz10.stored (s' := t2) (A' := B2) (n' := m2) (c' := e2)
            (try simp only [Act.put, List.setIfInBounds_toArray, List.set_cons_zero, List.set_cons_succ])
            refine wpAnyH_done (by kernel_rfl) ?_ _
            go_wp2_with fail
            go_meet
            case rel => exact ⟨gz10, rfl, by omega, by omega, by omega, by omega, by omega, ⟨⟨(p2.call hS), (i2.call hS)⟩, ⟨(p3.call hS), (i3.call hS)⟩, ⟨_, _, _, _, (p4.call hS), (i4.call hS)⟩, ⟨_, _, _, _, (p5.call hS), (j9.call hS)⟩, (p6.call hS), ⟨_, _, _, _, pz10, j2⟩, (bthen hW hS)⟩⟩
          · go_simp
            have pz10 := Pr.new u1 false none 0 0
            have az := bone u1 (.cells #[.bool false, .slice none 0 0] 24)
            have hz10 := hS.size
            replace hS := bthen hS az
            (replace j1 := j1.call az)
            refine hK.out _ _ hS (fun _ => ?_)
            clear hK K az
            generalize hgz : u1.heap.size = gz10 at hz10 pz10 ⊢
            clear hgz
            generalize u1.alloc (.cells #[.bool false, .slice none 0 0] 24) = u1z10 at *
            (try simp only [Act.put, List.setIfInBounds_toArray, List.set_cons_zero, List.set_cons_succ])
            refine wpAnyH_ready (rs := [4]) (by kernel_rfl) (by simp) ?_
            refine AllReadyH.cons (o := ⟨_, _, _, _, _, _⟩) rfl (fun K hK => ?_) AllReadyH.nil
            go_simp
            refine (sub_any _ (i4.call hS).any j1.any (by omega) (Nat.le_trans (j1.len LP.out) (by omega))).mono ?_
            rintro e u2 ⟨t2, B2, m2, e2, rfl, j2, d2⟩
            replace hS := bthen hS d2
            (replace j1 := j1.call d2); (replace pz10 := pz10.call d2)
            first | (with_reducible refine hK.out _ _ hS (fun _ => ?_)) | (go_wp2_with fail; with_reducible refine hK.out _ _ hS (fun _ => ?_))
            clear hK K
            (try simp only [Act.put, List.setIfInBounds_toArray, List.set_cons_zero, List.set_cons_succ])
            refine wpAnyH_ready (rs := [6]) (by kernel_rfl) (by simp) ?_
            refine AllReadyH.cons (o := ⟨_, _, _, _, _, _⟩) rfl (fun K hK => ?_) AllReadyH.nil
            obtain ⟨q0, q1, f0, f1, k0, k1⟩ := pz10.all (.bool t2) (.slice B2 m2 e2)
            go_simp
            replace hS := below_stored hS hz10 (.bool t2) (.slice B2 m2 e2)
            refine hK.out _ _ hS (fun _ => ?_)
            clear hK K q0 q1 f0 f1 k0 k1
            replace j1 := j1.stored pz10 (.bool t2) (.slice B2 m2 e2)
            replace j2 := j2.stored pz10 (.bool t2) (.slice B2 m2 e2)
            replace pz10 := pz10.stored (s' := t2) (A' := B2) (n' := m2) (c' := e2)
            (try simp only [Act.put, List.setIfInBounds_toArray, List.set_cons_zero, List.set_cons_succ])
            refine wpAnyH_done (by kernel_rfl) ?_ _
            go_wp2_with fail
            go_meet
            case rel => exact ⟨gz10, rfl, by omega, by omega, by omega, by omega, by omega, ⟨⟨(p2.call hS), (i2.call hS)⟩, ⟨(p3.call hS), (i3.call hS)⟩, ⟨_, _, _, _, (p4.call hS), (i4.call hS)⟩, ⟨_, _, _, _, (p5.call hS), (j9.call hS)⟩, (p6.call hS), ⟨_, _, _, _, pz10, j2⟩, (bthen hW hS)⟩⟩
        · go_simp
          have pz10 := Pr.new u0 false none 0 0
          have az := bone u0 (.cells #[.bool false, .slice none 0 0] 24)
          have hz10 := hS.size
          replace hS := bthen hS az
          refine hK.out _ _ hS (fun _ => ?_)
          clear hK K az
          generalize hgz : u0.heap.size = gz10 at hz10 pz10 ⊢
          clear hgz
          generalize u0.alloc (.cells #[.bool false, .slice none 0 0] 24) = u0z10 at *
          (try simp only [Act.put, List.setIfInBounds_toArray, List.set_cons_zero, List.set_cons_succ])
          refine wpAnyH_ready (rs := [3]) (by kernel_rfl) (by simp) ?_
          refine AllReadyH.cons (o := ⟨_, _, _, _, _, _⟩) rfl (fun K hK => ?_) AllReadyH.nil
          go_simp
          refine (mul_any _ (i2.call hS) (j9.call hS).any (by omega) (by omega)).mono ?_
          rintro e u1 ⟨t1, B1, m1, e1, rfl, j1, d1⟩
          replace hS := bthen hS d1
          (replace pz10 := pz10.call d1)
          first | (with_reducible refine hK.out _ _ hS (fun _ => ?_)) | (go_wp2_with fail; with_reducible refine hK.out _ _ hS (fun _ => ?_))
          clear hK K
          (try simp only [Act.put, List.setIfInBounds_toArray, List.set_cons_zero, List.set_cons_succ])
          refine wpAnyH_ready (rs := [4]) (by kernel_rfl) (by simp) ?_
          refine AllReadyH.cons (o := ⟨_, _, _, _, _, _⟩) rfl (fun K hK => ?_) AllReadyH.nil
          go_simp
          refine (sub_any _ (i4.call hS).any j1.any (by omega) (Nat.le_trans (j1.len LP.out) (by omega))).mono ?_
          rintro e u2 ⟨t2, B2, m2, e2, rfl, j2, d2⟩
          replace hS := bthen hS d2
          (replace j1 := j1.call d2); (replace pz10 := pz10.call d2)
          first | (with_reducible refine hK.out _ _ hS (fun _ => ?_)) | (go_wp2_with fail; with_reducible refine hK.out _ _ hS (fun _ => ?_))
          clear hK K
          (try simp only [Act.put, List.setIfInBounds_toArray, List.set_cons_zero, List.set_cons_succ])
          refine wpAnyH_ready (rs := [6]) (by kernel_rfl) (by simp) ?_
          refine AllReadyH.cons (o := ⟨_, _, _, _, _, _⟩) rfl (fun K hK => ?_) AllReadyH.nil
          obtain ⟨q0, q1, f0, f1, k0, k1⟩ := pz10.all (.bool t2) (.slice B2 m2 e2)
          go_simp
          replace hS := below_stored hS hz10 (.bool t2) (.slice B2 m2 e2)
          refine hK.out _ _ hS (fun _ => ?_)
          clear hK K q0 q1 f0 f1 k0 k1
          replace j1 := j1.stored pz10 (.bool t2) (.slice B2 m2 e2)
          replace j2 := j2.stored pz10 (.bool t2) (.slice B2 m2 e2)
          replace pz10 := pz10.stored (s' := t2) (A' := B2) (n' := m2) (c' := e2)
          (try simp only [Act.put, List.setIfInBounds_toArray, List.set_cons_zero, List.set_cons_succ])
          refine wpAnyH_done (by kernel_rfl) ?_ _
          go_wp2_with fail
          go_meet
          case rel => exact ⟨gz10, rfl, by omega, by omega, by omega, by omega, by omega, ⟨⟨(p2.call hS), (i2.call hS)⟩, ⟨(p3.call hS), (i3.call hS)⟩, ⟨_, _, _, _, (p4.call hS), (i4.call hS)⟩, ⟨_, _, _, _, (p5.call hS), (j9.call hS)⟩, (p6.call hS), ⟨_, _, _, _, pz10, j2⟩, (bthen hW hS)⟩⟩
      case rest =>
        clear hW p2 p3 p4 p5 p6 i2 i3 i4 j9
        obtain ⟨g10, rfl, ne6_0, ne6_1, ne6_2, ne6_3, ne6_4, HB⟩ := hcut
        obtain ⟨⟨p2, i2⟩, ⟨p3, i3⟩, ⟨s4, A4, n4, c4, p4, i4⟩, ⟨s5, A5, n5, c5, p5, i5⟩, p6, ⟨s10, A10, n10, c10, p10, i10⟩, hW⟩ := HB.out
        obtain ⟨X7, rfl⟩ : ∃ X : World, X = wc := ⟨_, rfl⟩
        clear HB
        have l10 := i10.len LD.out
        obtain ⟨o10_0, o10_1⟩ := p10.cells1
        obtain ⟨o3_0, o3_1⟩ := p3.cells1
        go_wp2_with fail
        refine (divMod_ne _ i10.any i3 (by omega) (by omega) hy).mono ?_
        rintro e X8 ⟨s11, A11, n11, c11, s12, A12, n12, c12, rfl, j11, j12, dX8⟩
        have zX8 := dX8.size
        have lX8_p2 := p2.lt
        have lX8_p3 := p3.lt
        have lX8_p4 := p4.lt
        have lX8_p5 := p5.lt
        have lX8_p6 := p6.lt
        have lX8_p10 := p10.lt
        (replace p2 := p2.call dX8); (replace p3 := p3.call dX8); (replace p4 := p4.call dX8); (replace p5 := p5.call dX8); (replace p6 := p6.call dX8); (replace p10 := p10.call dX8); (replace i2 := i2.call dX8); (replace i3 := i3.call dX8); (replace i4 := i4.call dX8); (replace i5 := i5.call dX8); (replace i10 := i10.call dX8)
        replace hW := bthen hW dX8
        clear o10_0 o10_1 o3_0 o3_1
        clear j12
        obtain ⟨q0, q1, f0, f1, k0, k1⟩ := p6.all (.bool s11) (.slice A11 n11 c11)
        have hW_ := below_stored hW (g := w.heap.size + 1 + 1 + 1 + 1) (by omega) (.bool s11) (.slice A11 n11 c11)
        have p2_ := p2.far (g' := w.heap.size + 1 + 1 + 1 + 1) (by omega) (.bool s11) (.slice A11 n11 c11)
        have p3_ := p3.far (g' := w.heap.size + 1 + 1 + 1 + 1) (by omega) (.bool s11) (.slice A11 n11 c11)
        have p4_ := p4.far (g' := w.heap.size + 1 + 1 + 1 + 1) (by omega) (.bool s11) (.slice A11 n11 c11)
        have p5_ := p5.far (g' := w.heap.size + 1 + 1 + 1 + 1) (by omega) (.bool s11) (.slice A11 n11 c11)
        have p6_ := p6.stored (s' := s11) (A' := A11) (n' := n11) (c' := c11)
        have p10_ := p10.far (g' := w.heap.size + 1 + 1 + 1 + 1) (by omega) (.bool s11) (.slice A11 n11 c11)
        have i2_ := i2.stored p6 (.bool s11) (.slice A11 n11 c11)
        have i3_ := i3.stored p6 (.bool s11) (.slice A11 n11 c11)
        have i4_ := i4.stored p6 (.bool s11) (.slice A11 n11 c11)
        have i5_ := i5.stored p6 (.bool s11) (.slice A11 n11 c11)
        have i10_ := i10.stored p6 (.bool s11) (.slice A11 n11 c11)
        have j11_ := j11.stored p6 (.bool s11) (.slice A11 n11 c11)
        go_upto_region 8 with (fail)
        clear q0 q1 f0 f1 k0 k1 hW i2 i3 i4 i5 i10 j11 p2 p3 p4 p5 p6 p10
        generalize (X8.setCell ⟨w.heap.size + 1 + 1 + 1 + 1, 0, none⟩ (.bool s11)).setCell ⟨w.heap.size + 1 + 1 + 1 + 1, 1, none⟩ (.slice A11 n11 c11) = X9 at *
        have hW := hW_; have i2 := i2_; have i3 := i3_; have i4 := i4_; have i5 := i5_; have i10 := i10_; have j11 := j11_; have p2 := p2_; have p3 := p3_; have p4 := p4_; have p5 := p5_; have p6 := p6_; have p10 := p10_
        clear hW_ i2_ i3_ i4_ i5_ i10_ j11_ p2_ p3_ p4_ p5_ p6_ p10_
        clear p10 i10 p3 i3 p2 i2
        have d0 := bdrew X9
        (replace i4 := i4.call d0); (replace i5 := i5.call d0); (replace j11 := j11.call d0); (replace p4 := p4.call d0); (replace p5 := p5.call d0); (replace p6 := p6.call d0)
        replace hW := bthen hW d0
        clear d0
        refine wp_region_held_drew (S := fun w' => Below w.heap.size w w' ∧ Pr w' (w.heap.size + 1 + 1) s4 A4 n4 c4 ∧ Pr w' (w.heap.size + 1 + 1 + 1) s5 A5 n5 c5 ∧ Pr w' (w.heap.size + 1 + 1 + 1 + 1) s11 A11 n11 c11) (by kernel_rfl) ⟨hW, p4, p5, p6⟩ (fun _ => ?_)
        generalize X9.drew = u0 at *
        refine wpAnyH_take (i := 0) (oi := ⟨_, _, _, _, _, _⟩) (v := ?_) rfl (by kernel_rfl) (by kernel_rfl) (by kernel_rfl) (fun _ _ _ h => h) (Or.inl ⟨by rfl, ?_⟩) ⟨hW, p4, p5, p6⟩ ?_
        rotate_left
        · intro w' hS'; obtain ⟨_, q_p4, q_p5, q_p6⟩ := hS'; have c0 := q_p4.cell0; have c1 := q_p4.cell1; (first | (go_simp; done) | (go_simp; with_reducible rfl) | with_reducible rfl)
        (try simp only [Act.put, List.setIfInBounds_toArray, List.set_cons_zero, List.set_cons_succ])
        refine wpAnyH_take (i := 1) (oi := ⟨_, _, _, _, _, _⟩) (v := ?_) rfl (by kernel_rfl) (by kernel_rfl) (by kernel_rfl) (fun _ _ _ h => h) (Or.inl ⟨by rfl, ?_⟩) ⟨hW, p4, p5, p6⟩ ?_
        rotate_left
        · intro w' hS'; obtain ⟨_, q_p4, q_p5, q_p6⟩ := hS'; have c0 := q_p5.cell0; have c1 := q_p5.cell1; (first | (go_simp; done) | (go_simp; with_reducible rfl) | with_reducible rfl)
        (try simp only [Act.put, List.setIfInBounds_toArray, List.set_cons_zero, List.set_cons_succ])
        refine wpAnyH_take (i := 2) (oi := ⟨_, _, _, _, _, _⟩) (v := ?_) rfl (by kernel_rfl) (by kernel_rfl) (by kernel_rfl) (fun _ _ _ h => h) (Or.inl ⟨by rfl, ?_⟩) ⟨hW, p4, p5, p6⟩ ?_
        rotate_left
        · intro w' hS'; obtain ⟨_, q_p4, q_p5, q_p6⟩ := hS'; have c0 := q_p6.cell0; have c1 := q_p6.cell1; (first | (go_simp; done) | (go_simp; with_reducible rfl) | with_reducible rfl)
        (try simp only [Act.put, List.setIfInBounds_toArray, List.set_cons_zero, List.set_cons_succ])
        refine wpAnyH_ready (rs := [3]) (by kernel_rfl) (by simp) ?_
        refine AllReadyH.cons (o := ⟨_, _, _, _, _, _⟩) rfl (fun K hK => ?_) AllReadyH.nil
        obtain ⟨q0, q1, f0, f1, k0, k1⟩ := p4.all (.bool s4) (.slice A4 n4 c4)
        go_simp
        clear q0 q1 f0 f1 k0 k1
        replace hW := below_stored hW (g := w.heap.size + 1 + 1) (by omega) (.bool s4) (.slice A4 n4 c4)
        replace i4 := i4.stored p4 (.bool s4) (.slice A4 n4 c4)
        replace i5 := i5.stored p4 (.bool s4) (.slice A4 n4 c4)
        replace j11 := j11.stored p4 (.bool s4) (.slice A4 n4 c4)
        replace p5 := p5.far (g' := w.heap.size + 1 + 1) (by omega) (.bool s4) (.slice A4 n4 c4)
        replace p6 := p6.far (g' := w.heap.size + 1 + 1) (by omega) (.bool s4) (.slice A4 n4 c4)
        replace p4 := p4.stored (s' := s4) (A' := A4) (n' := n4) (c' := c4)
        generalize (u0.setCell ⟨w.heap.size + 1 + 1, 0, none⟩ (.bool s4)).setCell ⟨w.heap.size + 1 + 1, 1, none⟩ (.slice A4 n4 c4) = su04 at *
        refine hK.out _ _ ⟨hW, p4, p5, p6⟩ (fun _ => ?_)
        clear hK K
        (try simp only [Act.put, List.setIfInBounds_toArray, List.set_cons_zero, List.set_cons_succ])
        refine wpAnyH_ready (rs := [4]) (by kernel_rfl) (by simp) ?_
        refine AllReadyH.cons (o := ⟨_, _, _, _, _, _⟩) rfl (fun K hK => ?_) AllReadyH.nil
        obtain ⟨q0, q1, f0, f1, k0, k1⟩ := p5.all (.bool s5) (.slice A5 n5 c5)
        go_simp
        clear q0 q1 f0 f1 k0 k1
        replace hW := below_stored hW (g := w.heap.size + 1 + 1 + 1) (by omega) (.bool s5) (.slice A5 n5 c5)
        replace i4 := i4.stored p5 (.bool s5) (.slice A5 n5 c5)
        replace i5 := i5.stored p5 (.bool s5) (.slice A5 n5 c5)
        replace j11 := j11.stored p5 (.bool s5) (.slice A5 n5 c5)
        replace p4 := p4.far (g' := w.heap.size + 1 + 1 + 1) (by omega) (.bool s5) (.slice A5 n5 c5)
        replace p6 := p6.far (g' := w.heap.size + 1 + 1 + 1) (by omega) (.bool s5) (.slice A5 n5 c5)
        replace p5 := p5.stored (s' := s5) (A' := A5) (n' := n5) (c' := c5)
        generalize (su04.setCell ⟨w.heap.size + 1 + 1 + 1, 0, none⟩ (.bool s5)).setCell ⟨w.heap.size + 1 + 1 + 1, 1, none⟩ (.slice A5 n5 c5) = ssu045 at *
        refine hK.out _ _ ⟨hW, p4, p5, p6⟩ (fun _ => ?_)
        clear hK K
        (try simp only [Act.put, List.setIfInBounds_toArray, List.set_cons_zero, List.set_cons_succ])
        refine wpAnyH_ready (rs := [5]) (by kernel_rfl) (by simp) ?_
        refine AllReadyH.cons (o := ⟨_, _, _, _, _, _⟩) rfl (fun K hK => ?_) AllReadyH.nil
        obtain ⟨q0, q1, f0, f1, k0, k1⟩ := p6.all (.bool s11) (.slice A11 n11 c11)
        go_simp
        clear q0 q1 f0 f1 k0 k1
        replace hW := below_stored hW (g := w.heap.size + 1 + 1 + 1 + 1) (by omega) (.bool s11) (.slice A11 n11 c11)
        replace i4 := i4.stored p6 (.bool s11) (.slice A11 n11 c11)
        replace i5 := i5.stored p6 (.bool s11) (.slice A11 n11 c11)
        replace j11 := j11.stored p6 (.bool s11) (.slice A11 n11 c11)
        replace p4 := p4.far (g' := w.heap.size + 1 + 1 + 1 + 1) (by omega) (.bool s11) (.slice A11 n11 c11)
        replace p5 := p5.far (g' := w.heap.size + 1 + 1 + 1 + 1) (by omega) (.bool s11) (.slice A11 n11 c11)
        replace p6 := p6.stored (s' := s11) (A' := A11) (n' := n11) (c' := c11)
        generalize (ssu045.setCell ⟨w.heap.size + 1 + 1 + 1 + 1, 0, none⟩ (.bool s11)).setCell ⟨w.heap.size + 1 + 1 + 1 + 1, 1, none⟩ (.slice A11 n11 c11) = sssu0456 at *
        refine hK.out _ _ ⟨hW, p4, p5, p6⟩ (fun _ => ?_)
        clear hK K
        (try simp only [Act.put, List.setIfInBounds_toArray, List.set_cons_zero, List.set_cons_succ])
        refine wpAnyH_done (by kernel_rfl) ?_ _
        obtain ⟨x0, x1⟩ := p4.cells1
        obtain ⟨x2, x3⟩ := p5.cells1
        obtain ⟨x4, x5⟩ := p6.cells1
        go_wp2
        refine bodyPost_ret (v := .tuple #[.agg #[.bool s4, .slice A4 n4 c4], .agg #[.bool s5, .slice A5 n5 c5], .agg #[.bool s11, .slice A11 n11 c11]]) (by simp [results, Tryd.results46, go_sem, x0, x1, x2, x3, x4, x5]) rfl ?_
        exact ⟨_, _, _, _, _, _, _, _, _, _, _, _, rfl, by rw [HGE.out]; exact i4, by rw [HU.out]; exact i5, by rw [HV.out]; exact j11, hW⟩
end Go.Proofs.YteicjbinginamaaDoor
