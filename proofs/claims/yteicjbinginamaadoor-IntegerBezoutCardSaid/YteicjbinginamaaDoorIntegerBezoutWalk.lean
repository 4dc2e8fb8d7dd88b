/- Walk of IntegerBezout. -/
import Derived.Test.YteicjbinginamaaDoorExt
namespace Go.Proofs.YteicjbinginamaaDoor
open Go.RowKit
set_option linter.unusedVariables false

set_option maxHeartbeats 4000000 in
set_option maxRecDepth 100000 in
theorem law_IntegerBezout {s t : Bool} {A A' : Option Addr} {n n' c c' : Nat} {x y : Int} (w : World) (ha : AInt w s A n c x) (hn : n ≤ 35184372087808) (hb : AInt w t A' n' c' y) (hn' : n' ≤ 35184372087808) (ht : Tab w) :
    Calls Tryd.prog 11 #[.agg #[.bool s, .slice A n c], .agg #[.bool t, .slice A' n' c']] w (RetV w (.bool true)) := by
  obtain ⟨W, hW, bW, pa, pb⟩ := boxes2' w s t A A' n n' c c'
  have a0 := pa.cell0
  have a1 := pa.cell1
  have b0 := pb.cell0
  have b1 := pb.cell1
  have HL := Lib.hid (light2 (s := s) (t := t) (A := A) (A' := A') (n := n) (n' := n') (c := c) (c' := c') W hn hn')
  have hsz : W.heap.size = w.heap.size + 1 + 1 := by rw [hW]; simp
  obtain ⟨W2, hW2⟩ : ∃ W2, W2 = W.alloc (.cells #[.bool s, .slice A n c, .bool t, .slice A' n' c'] 24) := ⟨_, rfl⟩
  have b2 : Below W.heap.size W W2 := by rw [hW2]; exact bone _ _
  rw [← hW2, hsz] at HL
  go_enter Tryd.func11, Tryd.ntmps11
  go_wp2_with fail
  rw [← hW]
  go_wp2_with fail
  rw [← hW2]
  refine HL.out.mono ?_
  rintro e X ⟨rfl, b3⟩
  replace b2 := bthen b2 b3
  (replace pa := pa.call b2); (replace pb := pb.call b2)
  replace bW := bthen bW b2
  (replace ha := ha.call bW); (replace hb := hb.call bW); (replace ht := ht.call bW)
  clear HL b3 b2 hW hW2 hsz a0 a1 b0 b1
  by_cases hl : n + n' ≤ 60
  case neg =>
    have hd : decide (n + n' ≤ 60) = false := by simp; omega
    have H2 := Lib.hid (awake_any X ht)
    go_wp2_with fail
    refine H2.out.mono ?_
    rintro e X2 ⟨rfl, b5⟩
    go_wp2
    go_ret
    exact ⟨rfl, bthen bW b5⟩
  case pos =>
    have hd : decide (n + n' ≤ 60) = true := by simp; omega
    have hn6 : n ≤ 60 := by omega
    have hn6' : n' ≤ 60 := by omega
    have lx := ha.lim.mono hn6
    have ly := hb.lim.mono hn6'
    have LG := exG_lim lx ly
    have LU := exU_lim (x := x) (show 1 ≤ 60 by omega) ly
    have LV := exV_lim (show 1 ≤ 60 by omega) lx ly
    have HBZ := Lib.hid (cmpz_eq (ex_bezout x y))
    have HD1 := Lib.hid (fmod_of_dvd (exG_dvd_left x y))
    have HD2 := Lib.hid (fmod_of_dvd (exG_dvd_right x y))
    have LP := lx.mul LU
    have LQ := ly.mul LV
    have LS := Lib.hid (Lim.add (LP.mono (show 60 + 60 ≤ 60 + (60 + 60 + 1 + 1) by omega)) LQ)
    have hg0 := exG_nonneg x y
    have HGZ := Lib.hid (@exG_zero x y)
    have HEX := Lib.hid (fun W h h' => ext_any (s := s) (t := t) (A := A) (A' := A') (n := n) (n' := n') (c := c) (c' := c') (x := x) (y := y) W h h' (by omega) (by omega))
    generalize exG x y = g at *
    generalize exU x y = u at *
    generalize exV x y = v at *
    obtain ⟨o2_0, o2_1⟩ := pa.cells1
    obtain ⟨o3_0, o3_1⟩ := pb.cells1
    go_wp2_with fail
    refine (HEX.out _ ha hb).mono ?_
    rintro e X1 ⟨s5, A5, n5, c5, s6, A6, n6, c6, s7, A7, n7, c7, rfl, i5, i6, i7, dX1⟩
    have zX1 := dX1.size
    have lX1_pa := pa.lt
    have lX1_pb := pb.lt
    (replace pa := pa.call dX1); (replace pb := pb.call dX1); (replace ha := ha.call dX1); (replace hb := hb.call dX1); (replace ht := ht.call dX1)
    replace bW := bthen bW dX1
    clear o2_0 o2_1 o3_0 o3_1
    obtain ⟨X2a, hX2a⟩ : ∃ Y, Y = X1.alloc (.cells #[.bool s5, .slice A5 n5 c5] 24) := ⟨_, rfl⟩
    have dbX2a : Below X1.heap.size X1 X2a := by rw [hX2a]; exact bone _ _
    have eX2a : X1.heap.size = X1.heap.size := by first | rfl | (rw [rfl]; simp)
    have p5 : Pr X2a (X1.heap.size) s5 A5 n5 c5 := by rw [← eX2a, hX2a]; exact Pr.new _ _ _ _ _
    (replace pa := pa.call dbX2a); (replace pb := pb.call dbX2a); (replace ha := ha.call dbX2a); (replace hb := hb.call dbX2a); (replace ht := ht.call dbX2a); (replace i5 := i5.call dbX2a); (replace i6 := i6.call dbX2a); (replace i7 := i7.call dbX2a)
    replace bW := bthen bW dbX2a
    obtain ⟨X2b, hX2b⟩ : ∃ Y, Y = X2a.alloc (.cells #[.bool s6, .slice A6 n6 c6] 24) := ⟨_, rfl⟩
    have dbX2b : Below X2a.heap.size X2a X2b := by rw [hX2b]; exact bone _ _
    have eX2b : X2a.heap.size = X1.heap.size + 1 := by first | rfl | (rw [hX2a]; simp)
    have p6 : Pr X2b (X1.heap.size + 1) s6 A6 n6 c6 := by rw [← eX2b, hX2b]; exact Pr.new _ _ _ _ _
    (replace pa := pa.call dbX2b); (replace pb := pb.call dbX2b); (replace ha := ha.call dbX2b); (replace hb := hb.call dbX2b); (replace ht := ht.call dbX2b); (replace p5 := p5.call dbX2b); (replace i5 := i5.call dbX2b); (replace i6 := i6.call dbX2b); (replace i7 := i7.call dbX2b)
    replace bW := bthen bW dbX2b
    obtain ⟨X2, hX2⟩ : ∃ Y, Y = X2b.alloc (.cells #[.bool s7, .slice A7 n7 c7] 24) := ⟨_, rfl⟩
    have dbX2 : Below X2b.heap.size X2b X2 := by rw [hX2]; exact bone _ _
    have eX2 : X2b.heap.size = X1.heap.size + 1 + 1 := by first | rfl | (rw [hX2b, hX2a]; simp)
    have p7 : Pr X2 (X1.heap.size + 1 + 1) s7 A7 n7 c7 := by rw [← eX2, hX2]; exact Pr.new _ _ _ _ _
    (replace pa := pa.call dbX2); (replace pb := pb.call dbX2); (replace ha := ha.call dbX2); (replace hb := hb.call dbX2); (replace ht := ht.call dbX2); (replace p5 := p5.call dbX2); (replace p6 := p6.call dbX2); (replace i5 := i5.call dbX2); (replace i6 := i6.call dbX2); (replace i7 := i7.call dbX2)
    replace bW := bthen bW dbX2
    go_upto_region 4 with (fail)
    rw [← hX2a, ← hX2b, ← hX2]
    clear eX2 hX2 dbX2 eX2b hX2b dbX2b eX2a hX2a dbX2a
    generalize X1.heap.size = g5 at *
    have l5 := i5.len LG
    have l6 := i6.len LU
    have l7 := i7.len LV
    by_cases hgz : g = 0
    · obtain ⟨hx0, hy0⟩ := HGZ.out hgz
      subst hgz hx0 hy0
      go_cut [41] (fun v wz => v = .bool false ∧ Below X2.heap.size X2 wz)
      case first =>
        refine wp_region_held_drew (S := fun w' => Below X2.heap.size X2 w') (by kernel_rfl) (bdrew X2) (fun hS => ?_)
        have hS : Below X2.heap.size X2 X2.drew := bdrew X2
        generalize X2.drew = u0 at hS ⊢
        refine wpAnyH_take (i := 0) (oi := ⟨_, _, _, _, _, _⟩) (v := ?_) rfl (by kernel_rfl) (by kernel_rfl) (by kernel_rfl) (fun _ _ _ h => h) (Or.inl ⟨by rfl, ?_⟩) hS ?_
        rotate_left
        · intro w' hS'; have p' := pa.call hS'; have c0 := p'.cell0; have c1 := p'.cell1; (first | (go_simp; done) | (go_simp; with_reducible rfl) | with_reducible rfl)
        (try simp only [Act.put, List.setIfInBounds_toArray, List.set_cons_zero, List.set_cons_succ])
        refine wpAnyH_take (i := 1) (oi := ⟨_, _, _, _, _, _⟩) (v := ?_) rfl (by kernel_rfl) (by kernel_rfl) (by kernel_rfl) (fun _ _ _ h => h) (Or.inl ⟨by rfl, ?_⟩) hS ?_
        rotate_left
        · intro w' hS'; have p' := p6.call hS'; have c0 := p'.cell0; have c1 := p'.cell1; (first | (go_simp; done) | (go_simp; with_reducible rfl) | with_reducible rfl)
        (try simp only [Act.put, List.setIfInBounds_toArray, List.set_cons_zero, List.set_cons_succ])
        refine wpAnyH_take (i := 3) (oi := ⟨_, _, _, _, _, _⟩) (v := ?_) rfl (by kernel_rfl) (by kernel_rfl) (by kernel_rfl) (fun _ _ _ h => h) (Or.inl ⟨by rfl, ?_⟩) hS ?_
        rotate_left
        · intro w' hS'; have p' := pb.call hS'; have c0 := p'.cell0; have c1 := p'.cell1; (first | (go_simp; done) | (go_simp; with_reducible rfl) | with_reducible rfl)
        (try simp only [Act.put, List.setIfInBounds_toArray, List.set_cons_zero, List.set_cons_succ])
        refine wpAnyH_take (i := 4) (oi := ⟨_, _, _, _, _, _⟩) (v := ?_) rfl (by kernel_rfl) (by kernel_rfl) (by kernel_rfl) (fun _ _ _ h => h) (Or.inl ⟨by rfl, ?_⟩) hS ?_
        rotate_left
        · intro w' hS'; have p' := p7.call hS'; have c0 := p'.cell0; have c1 := p'.cell1; (first | (go_simp; done) | (go_simp; with_reducible rfl) | with_reducible rfl)
        (try simp only [Act.put, List.setIfInBounds_toArray, List.set_cons_zero, List.set_cons_succ])
        refine wpAnyH_take (i := 7) (oi := ⟨_, _, _, _, _, _⟩) (v := ?_) rfl (by kernel_rfl) (by kernel_rfl) (by kernel_rfl) (fun _ _ _ h => h) (Or.inl ⟨by rfl, ?_⟩) hS ?_
        rotate_left
        · intro w' hS'; have p' := p5.call hS'; have c0 := p'.cell0; have c1 := p'.cell1; (first | (go_simp; done) | (go_simp; with_reducible rfl) | with_reducible rfl)
        (try simp only [Act.put, List.setIfInBounds_toArray, List.set_cons_zero, List.set_cons_succ])
        refine wpAnyH_ready (rs := [2]) (by kernel_rfl) (by simp) ?_
        refine AllReadyH.cons (o := ⟨_, _, _, _, _, _⟩) rfl (fun K hK => ?_) AllReadyH.nil
        go_simp
        refine (mul_any _ (ha.call hS) (i6.call hS).any (by omega) (by omega)).mono ?_
        rintro e u1 ⟨t1, B1, m1, e1, rfl, j1, d1⟩
        replace hS := bthen hS d1
        first | (with_reducible refine hK.out _ _ hS (fun _ => ?_)) | (go_wp2_with fail; with_reducible refine hK.out _ _ hS (fun _ => ?_))
        clear hK K
        have y1 := j1.len LP
        (try simp only [Act.put, List.setIfInBounds_toArray, List.set_cons_zero, List.set_cons_succ])
        refine wpAnyH_ready (rs := [5]) (by kernel_rfl) (by simp) ?_
        refine AllReadyH.cons (o := ⟨_, _, _, _, _, _⟩) rfl (fun K hK => ?_) AllReadyH.nil
        go_simp
        refine (mul_any _ (hb.call hS) (i7.call hS).any (by omega) (by omega)).mono ?_
        rintro e u2 ⟨t2, B2, m2, e2, rfl, j2, d2⟩
        replace hS := bthen hS d2
        (replace j1 := j1.call d2)
        first | (with_reducible refine hK.out _ _ hS (fun _ => ?_)) | (go_wp2_with fail; with_reducible refine hK.out _ _ hS (fun _ => ?_))
        clear hK K
        have y2 := j2.len LQ
        (try simp only [Act.put, List.setIfInBounds_toArray, List.set_cons_zero, List.set_cons_succ])
        refine wpAnyH_ready (rs := [6]) (by kernel_rfl) (by simp) ?_
        refine AllReadyH.cons (o := ⟨_, _, _, _, _, _⟩) rfl (fun K hK => ?_) AllReadyH.nil
        go_simp
        refine (add_any _ j1.any j2.any (by omega) (by omega)).mono ?_
        rintro e u3 ⟨t3, B3, m3, e3, rfl, j3, d3⟩
        replace hS := bthen hS d3
        (replace j1 := j1.call d3); (replace j2 := j2.call d3)
        first | (with_reducible refine hK.out _ _ hS (fun _ => ?_)) | (go_wp2_with fail; with_reducible refine hK.out _ _ hS (fun _ => ?_))
        clear hK K
        have y3 := j3.len LS.out
        (try simp only [Act.put, List.setIfInBounds_toArray, List.set_cons_zero, List.set_cons_succ])
        refine wpAnyH_ready (rs := [8]) (by kernel_rfl) (by simp) ?_
        refine AllReadyH.cons (o := ⟨_, _, _, _, _, _⟩) rfl (fun K hK => ?_) AllReadyH.nil
        go_simp
        refine (compare_is 0 _ j3.any (i5.call hS).any (by omega) (by omega) HBZ.out).mono ?_
        rintro e u4 ⟨rfl, d4⟩
        replace hS := bthen hS d4
        (replace j1 := j1.call d4); (replace j2 := j2.call d4); (replace j3 := j3.call d4)
        first | (with_reducible refine hK.out _ _ hS (fun _ => ?_)) | (go_wp2_with fail; with_reducible refine hK.out _ _ hS (fun _ => ?_))
        clear hK K
        (try simp only [Act.put, List.setIfInBounds_toArray, List.set_cons_zero, List.set_cons_succ])
        refine wpAnyH_take (i := 9) (oi := ⟨_, _, _, _, _, _⟩) (v := ?_) rfl (by kernel_rfl) (by kernel_rfl) (by kernel_rfl) (fun _ _ _ h => h) (Or.inl ⟨by rfl, ?_⟩) hS ?_
        rotate_left
        · intro w' hS'; (first | (go_simp; done) | (go_simp; with_reducible rfl) | with_reducible rfl)
        (try simp only [Act.put, List.setIfInBounds_toArray, List.set_cons_zero, List.set_cons_succ])
        refine wpAnyH_take (i := 10) (oi := ⟨_, _, _, _, _, _⟩) (v := ?_) rfl (by kernel_rfl) (by kernel_rfl) (by kernel_rfl) (fun _ _ _ h => h) (Or.inl ⟨by rfl, ?_⟩) hS ?_
        rotate_left
        · intro w' hS'; (first | (go_simp; done) | (go_simp; with_reducible rfl) | with_reducible rfl)
        (try simp only [Act.put, List.setIfInBounds_toArray, List.set_cons_zero, List.set_cons_succ])
        refine wpAnyH_take (i := 11) (oi := ⟨_, _, _, _, _, _⟩) (v := ?_) rfl (by kernel_rfl) (by kernel_rfl) (by kernel_rfl) (fun _ _ _ h => h) (Or.inl ⟨by rfl, ?_⟩) hS ?_
        rotate_left
        · intro w' hS'; have p' := p5.call hS'; have c0 := p'.cell0; have c1 := p'.cell1; (first | (go_simp; done) | (go_simp; with_reducible rfl) | with_reducible rfl)
        (try simp only [Act.put, List.setIfInBounds_toArray, List.set_cons_zero, List.set_cons_succ])
        refine wpAnyH_ready (rs := [12]) (by kernel_rfl) (by simp) ?_
        refine AllReadyH.cons (o := ⟨_, _, _, _, _, _⟩) rfl (fun K hK => ?_) AllReadyH.nil
        go_simp
        refine (sign_is 0 _ (i5.call hS).any rfl).mono ?_
        rintro e u5 ⟨rfl, d5⟩
        replace hS := bthen hS d5
        (replace j1 := j1.call d5); (replace j2 := j2.call d5); (replace j3 := j3.call d5)
        first | (with_reducible refine hK.out _ _ hS (fun _ => ?_)) | (go_wp2_with fail; with_reducible refine hK.out _ _ hS (fun _ => ?_))
        clear hK K
        (try simp only [Act.put, List.setIfInBounds_toArray, List.set_cons_zero, List.set_cons_succ])
        refine wpAnyH_take (i := 13) (oi := ⟨_, _, _, _, _, _⟩) (v := ?_) rfl (by kernel_rfl) (by kernel_rfl) (by kernel_rfl) (fun _ _ _ h => h) (Or.inl ⟨by rfl, ?_⟩) hS ?_
        rotate_left
        · intro w' hS'; (first | (go_simp; done) | (go_simp; with_reducible rfl) | with_reducible rfl)
        (try simp only [Act.put, List.setIfInBounds_toArray, List.set_cons_zero, List.set_cons_succ])
        refine wpAnyH_take (i := 14) (oi := ⟨_, _, _, _, _, _⟩) (v := ?_) rfl (by kernel_rfl) (by kernel_rfl) (by kernel_rfl) (fun _ _ _ h => h) (Or.inl ⟨by rfl, ?_⟩) hS ?_
        rotate_left
        · intro w' hS'; (first | (go_simp; done) | (go_simp; with_reducible rfl) | with_reducible rfl)
        (try simp only [Act.put, List.setIfInBounds_toArray, List.set_cons_zero, List.set_cons_succ])
        refine wpAnyH_done (by kernel_rfl) ?_ _
        go_wp2_with fail
        go_meet
        case rel => exact ⟨rfl, hS⟩
      case rest =>
        obtain ⟨rfl, d4⟩ := hcut
        obtain ⟨X3, rfl⟩ : ∃ X : World, X = wc := ⟨_, rfl⟩
        (replace pa := pa.call d4); (replace pb := pb.call d4); (replace p5 := p5.call d4); (replace p6 := p6.call d4); (replace p7 := p7.call d4); (replace ha := ha.call d4); (replace hb := hb.call d4); (replace i5 := i5.call d4); (replace i6 := i6.call d4); (replace i7 := i7.call d4); (replace ht := ht.call d4)
        replace bW := bthen bW d4
        clear d4
        obtain ⟨o5_0, o5_1⟩ := p5.cells1
        go_wp2_with fail
        refine (sign_is 0 _ i5.any rfl).mono ?_
        rintro e X4 ⟨rfl, dX4⟩
        have zX4 := dX4.size
        have lX4_pa := pa.lt
        have lX4_pb := pb.lt
        have lX4_p5 := p5.lt
        have lX4_p6 := p6.lt
        have lX4_p7 := p7.lt
        (replace pa := pa.call dX4); (replace pb := pb.call dX4); (replace p5 := p5.call dX4); (replace p6 := p6.call dX4); (replace p7 := p7.call dX4); (replace ha := ha.call dX4); (replace hb := hb.call dX4); (replace i5 := i5.call dX4); (replace i6 := i6.call dX4); (replace i7 := i7.call dX4); (replace ht := ht.call dX4)
        replace bW := bthen bW dX4
        clear o5_0 o5_1
        obtain ⟨o2_0, o2_1⟩ := pa.cells1
        go_wp2_with fail
        refine (sign_is 0 _ ha rfl).mono ?_
        rintro e X5 ⟨rfl, dX5⟩
        have zX5 := dX5.size
        have lX5_pa := pa.lt
        have lX5_pb := pb.lt
        have lX5_p5 := p5.lt
        have lX5_p6 := p6.lt
        have lX5_p7 := p7.lt
        (replace pa := pa.call dX5); (replace pb := pb.call dX5); (replace p5 := p5.call dX5); (replace p6 := p6.call dX5); (replace p7 := p7.call dX5); (replace ha := ha.call dX5); (replace hb := hb.call dX5); (replace i5 := i5.call dX5); (replace i6 := i6.call dX5); (replace i7 := i7.call dX5); (replace ht := ht.call dX5)
        replace bW := bthen bW dX5
        clear o2_0 o2_1
        obtain ⟨o3_0, o3_1⟩ := pb.cells1
        go_wp2_with fail
        refine (sign_is 0 _ hb rfl).mono ?_
        rintro e X6 ⟨rfl, dX6⟩
        have zX6 := dX6.size
        have lX6_pa := pa.lt
        have lX6_pb := pb.lt
        have lX6_p5 := p5.lt
        have lX6_p6 := p6.lt
        have lX6_p7 := p7.lt
        (replace pa := pa.call dX6); (replace pb := pb.call dX6); (replace p5 := p5.call dX6); (replace p6 := p6.call dX6); (replace p7 := p7.call dX6); (replace ha := ha.call dX6); (replace hb := hb.call dX6); (replace i5 := i5.call dX6); (replace i6 := i6.call dX6); (replace i7 := i7.call dX6); (replace ht := ht.call dX6)
        replace bW := bthen bW dX6
        clear o3_0 o3_1
        go_wp2_with fail
        refine (awake_any _ ht).mono ?_
        rintro e X7 ⟨rfl, dX7⟩
        have zX7 := dX7.size
        have lX7_pa := pa.lt
        have lX7_pb := pb.lt
        have lX7_p5 := p5.lt
        have lX7_p6 := p6.lt
        have lX7_p7 := p7.lt
        (replace pa := pa.call dX7); (replace pb := pb.call dX7); (replace p5 := p5.call dX7); (replace p6 := p6.call dX7); (replace p7 := p7.call dX7); (replace ha := ha.call dX7); (replace hb := hb.call dX7); (replace i5 := i5.call dX7); (replace i6 := i6.call dX7); (replace i7 := i7.call dX7); (replace ht := ht.call dX7)
        replace bW := bthen bW dX7
        go_wp2
        go_ret
        exact ⟨rfl, bW⟩
    · have hsg : Hid (g.sign = 1) := Int.sign_eq_one_of_pos (by omega)
      go_cut [41] (fun v wz => v = .bool false ∧ Below X2.heap.size X2 wz)
      case first =>
        refine wp_region_held_drew (S := fun w' => Below X2.heap.size X2 w') (by kernel_rfl) (bdrew X2) (fun hS => ?_)
        have hS : Below X2.heap.size X2 X2.drew := bdrew X2
        generalize X2.drew = u0 at hS ⊢
        refine wpAnyH_take (i := 0) (oi := ⟨_, _, _, _, _, _⟩) (v := ?_) rfl (by kernel_rfl) (by kernel_rfl) (by kernel_rfl) (fun _ _ _ h => h) (Or.inl ⟨by rfl, ?_⟩) hS ?_
        rotate_left
        · intro w' hS'; have p' := pa.call hS'; have c0 := p'.cell0; have c1 := p'.cell1; (first | (go_simp; done) | (go_simp; with_reducible rfl) | with_reducible rfl)
        (try simp only [Act.put, List.setIfInBounds_toArray, List.set_cons_zero, List.set_cons_succ])
        refine wpAnyH_take (i := 1) (oi := ⟨_, _, _, _, _, _⟩) (v := ?_) rfl (by kernel_rfl) (by kernel_rfl) (by kernel_rfl) (fun _ _ _ h => h) (Or.inl ⟨by rfl, ?_⟩) hS ?_
        rotate_left
        · intro w' hS'; have p' := p6.call hS'; have c0 := p'.cell0; have c1 := p'.cell1; (first | (go_simp; done) | (go_simp; with_reducible rfl) | with_reducible rfl)
        (try simp only [Act.put, List.setIfInBounds_toArray, List.set_cons_zero, List.set_cons_succ])
        refine wpAnyH_take (i := 3) (oi := ⟨_, _, _, _, _, _⟩) (v := ?_) rfl (by kernel_rfl) (by kernel_rfl) (by kernel_rfl) (fun _ _ _ h => h) (Or.inl ⟨by rfl, ?_⟩) hS ?_
        rotate_left
        · intro w' hS'; have p' := pb.call hS'; have c0 := p'.cell0; have c1 := p'.cell1; (first | (go_simp; done) | (go_simp; with_reducible rfl) | with_reducible rfl)
        (try simp only [Act.put, List.setIfInBounds_toArray, List.set_cons_zero, List.set_cons_succ])
        refine wpAnyH_take (i := 4) (oi := ⟨_, _, _, _, _, _⟩) (v := ?_) rfl (by kernel_rfl) (by kernel_rfl) (by kernel_rfl) (fun _ _ _ h => h) (Or.inl ⟨by rfl, ?_⟩) hS ?_
        rotate_left
        · intro w' hS'; have p' := p7.call hS'; have c0 := p'.cell0; have c1 := p'.cell1; (first | (go_simp; done) | (go_simp; with_reducible rfl) | with_reducible rfl)
        (try simp only [Act.put, List.setIfInBounds_toArray, List.set_cons_zero, List.set_cons_succ])
        refine wpAnyH_take (i := 7) (oi := ⟨_, _, _, _, _, _⟩) (v := ?_) rfl (by kernel_rfl) (by kernel_rfl) (by kernel_rfl) (fun _ _ _ h => h) (Or.inl ⟨by rfl, ?_⟩) hS ?_
        rotate_left
        · intro w' hS'; have p' := p5.call hS'; have c0 := p'.cell0; have c1 := p'.cell1; (first | (go_simp; done) | (go_simp; with_reducible rfl) | with_reducible rfl)
        (try simp only [Act.put, List.setIfInBounds_toArray, List.set_cons_zero, List.set_cons_succ])
        refine wpAnyH_ready (rs := [2]) (by kernel_rfl) (by simp) ?_
        refine AllReadyH.cons (o := ⟨_, _, _, _, _, _⟩) rfl (fun K hK => ?_) AllReadyH.nil
        go_simp
        refine (mul_any _ (ha.call hS) (i6.call hS).any (by omega) (by omega)).mono ?_
        rintro e u1 ⟨t1, B1, m1, e1, rfl, j1, d1⟩
        replace hS := bthen hS d1
        first | (with_reducible refine hK.out _ _ hS (fun _ => ?_)) | (go_wp2_with fail; with_reducible refine hK.out _ _ hS (fun _ => ?_))
        clear hK K
        have y1 := j1.len LP
        (try simp only [Act.put, List.setIfInBounds_toArray, List.set_cons_zero, List.set_cons_succ])
        refine wpAnyH_ready (rs := [5]) (by kernel_rfl) (by simp) ?_
        refine AllReadyH.cons (o := ⟨_, _, _, _, _, _⟩) rfl (fun K hK => ?_) AllReadyH.nil
        go_simp
        refine (mul_any _ (hb.call hS) (i7.call hS).any (by omega) (by omega)).mono ?_
        rintro e u2 ⟨t2, B2, m2, e2, rfl, j2, d2⟩
        replace hS := bthen hS d2
        (replace j1 := j1.call d2)
        first | (with_reducible refine hK.out _ _ hS (fun _ => ?_)) | (go_wp2_with fail; with_reducible refine hK.out _ _ hS (fun _ => ?_))
        clear hK K
        have y2 := j2.len LQ
        (try simp only [Act.put, List.setIfInBounds_toArray, List.set_cons_zero, List.set_cons_succ])
        refine wpAnyH_ready (rs := [6]) (by kernel_rfl) (by simp) ?_
        refine AllReadyH.cons (o := ⟨_, _, _, _, _, _⟩) rfl (fun K hK => ?_) AllReadyH.nil
        go_simp
        refine (add_any _ j1.any j2.any (by omega) (by omega)).mono ?_
        rintro e u3 ⟨t3, B3, m3, e3, rfl, j3, d3⟩
        replace hS := bthen hS d3
        (replace j1 := j1.call d3); (replace j2 := j2.call d3)
        first | (with_reducible refine hK.out _ _ hS (fun _ => ?_)) | (go_wp2_with fail; with_reducible refine hK.out _ _ hS (fun _ => ?_))
        clear hK K
        have y3 := j3.len LS.out
        (try simp only [Act.put, List.setIfInBounds_toArray, List.set_cons_zero, List.set_cons_succ])
        refine wpAnyH_ready (rs := [8]) (by kernel_rfl) (by simp) ?_
        refine AllReadyH.cons (o := ⟨_, _, _, _, _, _⟩) rfl (fun K hK => ?_) AllReadyH.nil
        go_simp
        refine (compare_is 0 _ j3.any (i5.call hS).any (by omega) (by omega) HBZ.out).mono ?_
        rintro e u4 ⟨rfl, d4⟩
        replace hS := bthen hS d4
        (replace j1 := j1.call d4); (replace j2 := j2.call d4); (replace j3 := j3.call d4)
        first | (with_reducible refine hK.out _ _ hS (fun _ => ?_)) | (go_wp2_with fail; with_reducible refine hK.out _ _ hS (fun _ => ?_))
        clear hK K
        (try simp only [Act.put, List.setIfInBounds_toArray, List.set_cons_zero, List.set_cons_succ])
        refine wpAnyH_take (i := 9) (oi := ⟨_, _, _, _, _, _⟩) (v := ?_) rfl (by kernel_rfl) (by kernel_rfl) (by kernel_rfl) (fun _ _ _ h => h) (Or.inl ⟨by rfl, ?_⟩) hS ?_
        rotate_left
        · intro w' hS'; (first | (go_simp; done) | (go_simp; with_reducible rfl) | with_reducible rfl)
        (try simp only [Act.put, List.setIfInBounds_toArray, List.set_cons_zero, List.set_cons_succ])
        refine wpAnyH_take (i := 10) (oi := ⟨_, _, _, _, _, _⟩) (v := ?_) rfl (by kernel_rfl) (by kernel_rfl) (by kernel_rfl) (fun _ _ _ h => h) (Or.inl ⟨by rfl, ?_⟩) hS ?_
        rotate_left
        · intro w' hS'; (first | (go_simp; done) | (go_simp; with_reducible rfl) | with_reducible rfl)
        (try simp only [Act.put, List.setIfInBounds_toArray, List.set_cons_zero, List.set_cons_succ])
        refine wpAnyH_take (i := 11) (oi := ⟨_, _, _, _, _, _⟩) (v := ?_) rfl (by kernel_rfl) (by kernel_rfl) (by kernel_rfl) (fun _ _ _ h => h) (Or.inl ⟨by rfl, ?_⟩) hS ?_
        rotate_left
        · intro w' hS'; have p' := p5.call hS'; have c0 := p'.cell0; have c1 := p'.cell1; (first | (go_simp; done) | (go_simp; with_reducible rfl) | with_reducible rfl)
        (try simp only [Act.put, List.setIfInBounds_toArray, List.set_cons_zero, List.set_cons_succ])
        refine wpAnyH_ready (rs := [12]) (by kernel_rfl) (by simp) ?_
        refine AllReadyH.cons (o := ⟨_, _, _, _, _, _⟩) rfl (fun K hK => ?_) AllReadyH.nil
        go_simp
        refine (sign_is 1 _ (i5.call hS).any hsg.out).mono ?_
        rintro e u5 ⟨rfl, d5⟩
        replace hS := bthen hS d5
        (replace j1 := j1.call d5); (replace j2 := j2.call d5); (replace j3 := j3.call d5)
        first | (with_reducible refine hK.out _ _ hS (fun _ => ?_)) | (go_wp2_with fail; with_reducible refine hK.out _ _ hS (fun _ => ?_))
        clear hK K
        (try simp only [Act.put, List.setIfInBounds_toArray, List.set_cons_zero, List.set_cons_succ])
        refine wpAnyH_take (i := 13) (oi := ⟨_, _, _, _, _, _⟩) (v := ?_) rfl (by kernel_rfl) (by kernel_rfl) (by kernel_rfl) (fun _ _ _ h => h) (Or.inl ⟨by rfl, ?_⟩) hS ?_
        rotate_left
        · intro w' hS'; (first | (go_simp; done) | (go_simp; with_reducible rfl) | with_reducible rfl)
        (try simp only [Act.put, List.setIfInBounds_toArray, List.set_cons_zero, List.set_cons_succ])
        refine wpAnyH_take (i := 14) (oi := ⟨_, _, _, _, _, _⟩) (v := ?_) rfl (by kernel_rfl) (by kernel_rfl) (by kernel_rfl) (fun _ _ _ h => h) (Or.inl ⟨by rfl, ?_⟩) hS ?_
        rotate_left
        · intro w' hS'; (first | (go_simp; done) | (go_simp; with_reducible rfl) | with_reducible rfl)
        (try simp only [Act.put, List.setIfInBounds_toArray, List.set_cons_zero, List.set_cons_succ])
        refine wpAnyH_done (by kernel_rfl) ?_ _
        go_wp2_with fail
        go_meet
        case rel => exact ⟨rfl, hS⟩
      case rest =>
        obtain ⟨rfl, d4⟩ := hcut
        obtain ⟨X3, rfl⟩ : ∃ X : World, X = wc := ⟨_, rfl⟩
        (replace pa := pa.call d4); (replace pb := pb.call d4); (replace p5 := p5.call d4); (replace p6 := p6.call d4); (replace p7 := p7.call d4); (replace ha := ha.call d4); (replace hb := hb.call d4); (replace i5 := i5.call d4); (replace i6 := i6.call d4); (replace i7 := i7.call d4); (replace ht := ht.call d4)
        replace bW := bthen bW d4
        clear d4
        clear p6 i6 p7 i7
        obtain ⟨o5_0, o5_1⟩ := p5.cells1
        go_wp2_with fail
        refine (sign_is 1 _ i5.any hsg.out).mono ?_
        rintro e X4 ⟨rfl, dX4⟩
        have zX4 := dX4.size
        have lX4_pa := pa.lt
        have lX4_pb := pb.lt
        have lX4_p5 := p5.lt
        (replace pa := pa.call dX4); (replace pb := pb.call dX4); (replace p5 := p5.call dX4); (replace ha := ha.call dX4); (replace hb := hb.call dX4); (replace i5 := i5.call dX4); (replace ht := ht.call dX4)
        replace bW := bthen bW dX4
        clear o5_0 o5_1
        go_upto_region 8 with (fail)
        obtain ⟨o2_0, o2_1⟩ := pa.cells1
        obtain ⟨o5_0, o5_1⟩ := p5.cells1
        go_wp2_with fail
        refine (divMod_ne _ ha i5.any (by omega) (by omega) hgz).mono ?_
        rintro e X5 ⟨s8, A8, n8, c8, s9, A9, n9, c9, rfl, i8, i9, dX5⟩
        have zX5 := dX5.size
        have lX5_pa := pa.lt
        have lX5_pb := pb.lt
        have lX5_p5 := p5.lt
        (replace pa := pa.call dX5); (replace pb := pb.call dX5); (replace p5 := p5.call dX5); (replace ha := ha.call dX5); (replace hb := hb.call dX5); (replace i5 := i5.call dX5); (replace ht := ht.call dX5)
        replace bW := bthen bW dX5
        clear o2_0 o2_1 o5_0 o5_1
        rw [HD1.out] at i9
        obtain ⟨X6a, hX6a⟩ : ∃ Y, Y = X5.alloc (.cells #[.bool s8, .slice A8 n8 c8] 24) := ⟨_, rfl⟩
        have dbX6a : Below X5.heap.size X5 X6a := by rw [hX6a]; exact bone _ _
        have eX6a : X5.heap.size = X5.heap.size := by first | rfl | (rw [rfl]; simp)
        have p8 : Pr X6a (X5.heap.size) s8 A8 n8 c8 := by rw [← eX6a, hX6a]; exact Pr.new _ _ _ _ _
        (replace pa := pa.call dbX6a); (replace pb := pb.call dbX6a); (replace p5 := p5.call dbX6a); (replace ha := ha.call dbX6a); (replace hb := hb.call dbX6a); (replace i5 := i5.call dbX6a); (replace ht := ht.call dbX6a); (replace i8 := i8.call dbX6a); (replace i9 := i9.call dbX6a)
        replace bW := bthen bW dbX6a
        obtain ⟨X6, hX6⟩ : ∃ Y, Y = X6a.alloc (.cells #[.bool s9, .slice A9 n9 c9] 24) := ⟨_, rfl⟩
        have dbX6 : Below X6a.heap.size X6a X6 := by rw [hX6]; exact bone _ _
        have eX6 : X6a.heap.size = X5.heap.size + 1 := by first | rfl | (rw [hX6a]; simp)
        have p9 : Pr X6 (X5.heap.size + 1) s9 A9 n9 c9 := by rw [← eX6, hX6]; exact Pr.new _ _ _ _ _
        (replace pa := pa.call dbX6); (replace pb := pb.call dbX6); (replace p5 := p5.call dbX6); (replace ha := ha.call dbX6); (replace hb := hb.call dbX6); (replace i5 := i5.call dbX6); (replace ht := ht.call dbX6); (replace p8 := p8.call dbX6); (replace i8 := i8.call dbX6); (replace i9 := i9.call dbX6)
        replace bW := bthen bW dbX6
        go_upto_region 9 with (fail)
        rw [← hX6a, ← hX6]
        clear eX6 hX6 dbX6 eX6a hX6a dbX6a
        generalize X5.heap.size = g8 at *
        clear p8 i8
        obtain ⟨o3_0, o3_1⟩ := pb.cells1
        obtain ⟨o5_0, o5_1⟩ := p5.cells1
        go_wp2_with fail
        refine (divMod_ne _ hb i5.any (by omega) (by omega) hgz).mono ?_
        rintro e X7 ⟨s11, A11, n11, c11, s12, A12, n12, c12, rfl, i11, i12, dX7⟩
        have zX7 := dX7.size
        have lX7_pa := pa.lt
        have lX7_pb := pb.lt
        have lX7_p5 := p5.lt
        have lX7_p9 := p9.lt
        (replace pa := pa.call dX7); (replace pb := pb.call dX7); (replace p5 := p5.call dX7); (replace p9 := p9.call dX7); (replace ha := ha.call dX7); (replace hb := hb.call dX7); (replace i5 := i5.call dX7); (replace i9 := i9.call dX7); (replace ht := ht.call dX7)
        replace bW := bthen bW dX7
        clear o3_0 o3_1 o5_0 o5_1
        rw [HD2.out] at i12
        obtain ⟨X8a, hX8a⟩ : ∃ Y, Y = X7.alloc (.cells #[.bool s11, .slice A11 n11 c11] 24) := ⟨_, rfl⟩
        have dbX8a : Below X7.heap.size X7 X8a := by rw [hX8a]; exact bone _ _
        have eX8a : X7.heap.size = X7.heap.size := by first | rfl | (rw [rfl]; simp)
        have p11 : Pr X8a (X7.heap.size) s11 A11 n11 c11 := by rw [← eX8a, hX8a]; exact Pr.new _ _ _ _ _
        (replace pa := pa.call dbX8a); (replace pb := pb.call dbX8a); (replace p5 := p5.call dbX8a); (replace p9 := p9.call dbX8a); (replace ha := ha.call dbX8a); (replace hb := hb.call dbX8a); (replace i5 := i5.call dbX8a); (replace i9 := i9.call dbX8a); (replace ht := ht.call dbX8a); (replace i11 := i11.call dbX8a); (replace i12 := i12.call dbX8a)
        replace bW := bthen bW dbX8a
        obtain ⟨X8, hX8⟩ : ∃ Y, Y = X8a.alloc (.cells #[.bool s12, .slice A12 n12 c12] 24) := ⟨_, rfl⟩
        have dbX8 : Below X8a.heap.size X8a X8 := by rw [hX8]; exact bone _ _
        have eX8 : X8a.heap.size = X7.heap.size + 1 := by first | rfl | (rw [hX8a]; simp)
        have p12 : Pr X8 (X7.heap.size + 1) s12 A12 n12 c12 := by rw [← eX8, hX8]; exact Pr.new _ _ _ _ _
        (replace pa := pa.call dbX8); (replace pb := pb.call dbX8); (replace p5 := p5.call dbX8); (replace p9 := p9.call dbX8); (replace ha := ha.call dbX8); (replace hb := hb.call dbX8); (replace i5 := i5.call dbX8); (replace i9 := i9.call dbX8); (replace ht := ht.call dbX8); (replace p11 := p11.call dbX8); (replace i11 := i11.call dbX8); (replace i12 := i12.call dbX8)
        replace bW := bthen bW dbX8
        go_upto_region 10 with (fail)
        rw [← hX8a, ← hX8]
        clear eX8 hX8 dbX8 eX8a hX8a dbX8a
        generalize X7.heap.size = g11 at *
        clear p11 i11
        obtain ⟨o9_0, o9_1⟩ := p9.cells1
        go_wp2_with fail
        refine (sign_is 0 _ i9.any rfl).mono ?_
        rintro e X9 ⟨rfl, dX9⟩
        have zX9 := dX9.size
        have lX9_pa := pa.lt
        have lX9_pb := pb.lt
        have lX9_p5 := p5.lt
        have lX9_p9 := p9.lt
        have lX9_p12 := p12.lt
        (replace pa := pa.call dX9); (replace pb := pb.call dX9); (replace p5 := p5.call dX9); (replace p9 := p9.call dX9); (replace p12 := p12.call dX9); (replace ha := ha.call dX9); (replace hb := hb.call dX9); (replace i5 := i5.call dX9); (replace i9 := i9.call dX9); (replace i12 := i12.call dX9); (replace ht := ht.call dX9)
        replace bW := bthen bW dX9
        clear o9_0 o9_1
        obtain ⟨o12_0, o12_1⟩ := p12.cells1
        go_wp2_with fail
        refine (sign_is 0 _ i12.any rfl).mono ?_
        rintro e X10 ⟨rfl, dX10⟩
        have zX10 := dX10.size
        have lX10_pa := pa.lt
        have lX10_pb := pb.lt
        have lX10_p5 := p5.lt
        have lX10_p9 := p9.lt
        have lX10_p12 := p12.lt
        (replace pa := pa.call dX10); (replace pb := pb.call dX10); (replace p5 := p5.call dX10); (replace p9 := p9.call dX10); (replace p12 := p12.call dX10); (replace ha := ha.call dX10); (replace hb := hb.call dX10); (replace i5 := i5.call dX10); (replace i9 := i9.call dX10); (replace i12 := i12.call dX10); (replace ht := ht.call dX10)
        replace bW := bthen bW dX10
        clear o12_0 o12_1
        go_wp2_with fail
        refine (awake_any _ ht).mono ?_
        rintro e X11 ⟨rfl, dX11⟩
        have zX11 := dX11.size
        have lX11_pa := pa.lt
        have lX11_pb := pb.lt
        have lX11_p5 := p5.lt
        have lX11_p9 := p9.lt
        have lX11_p12 := p12.lt
        (replace pa := pa.call dX11); (replace pb := pb.call dX11); (replace p5 := p5.call dX11); (replace p9 := p9.call dX11); (replace p12 := p12.call dX11); (replace ha := ha.call dX11); (replace hb := hb.call dX11); (replace i5 := i5.call dX11); (replace i9 := i9.call dX11); (replace i12 := i12.call dX11); (replace ht := ht.call dX11)
        replace bW := bthen bW dX11
        go_wp2
        go_ret
        exact ⟨rfl, bW⟩
end Go.Proofs.YteicjbinginamaaDoor
