/- Walk of IntegerDivisors. -/
import Derived.Test.YteicjbinginamaaDoorExtR
namespace Go.Proofs.YteicjbinginamaaDoor
open Go.RowKit
set_option linter.unusedVariables false

set_option maxHeartbeats 4000000 in
set_option maxRecDepth 100000 in
theorem law_IntegerDivisors {s t : Bool} {A A' : Option Addr} {n n' c c' : Nat} {x y : Int} (w : World) (ha : AInt w s A n c x) (hn : n ≤ 35184372087808) (hb : AInt w t A' n' c' y) (hn' : n' ≤ 35184372087808) (ht : Tab w) :
    Calls Tryd.prog 10 #[.agg #[.bool s, .slice A n c], .agg #[.bool t, .slice A' n' c']] w (RetV w (.bool true)) := by
  obtain ⟨W, hW, bW, pa, pb⟩ := boxes2' w s t A A' n n' c c'
  have a0 := pa.cell0
  have a1 := pa.cell1
  have b0 := pb.cell0
  have b1 := pb.cell1
  have HL := Lib.hid (light2 (s := s) (t := t) (A := A) (A' := A') (n := n) (n' := n') (c := c) (c' := c') W hn hn')
  have hsz : W.heap.size = w.heap.size + 1 + 1 := by rw [hW]; simp
  obtain ⟨W2, hW2⟩ : ∃ W2, W2 = W.alloc (.cells #[.bool s, .slice A n c, .bool t, .slice A' n' c'] 24) := ⟨_, rfl⟩
  have b2 : Below W.heap.size W W2 := by rw [hW2]; exact bone _ _
  rw [← hW2, hsz] at HL
  go_enter Tryd.func10, Tryd.ntmps10
  go_wp2_with fail
  rw [← hW]
  go_wp2_with fail
  rw [← hW2]
  refine HL.out.mono ?_
  rintro e X ⟨rfl, b3⟩
  replace b2 := bthen b2 b3
  (replace pa := pa.call b2); (replace pb := pb.call b2)
  replace bW := bthen bW b2
  (replace ha := ha.call bW); (replace hb := hb.call bW); (replace ht := ht.call bW)
  clear HL b3 b2 hW hW2 hsz a0 a1 b0 b1
  by_cases hl : n + n' ≤ 60
  case neg =>
    have hd : decide (n + n' ≤ 60) = false := by simp; omega
    have H2 := Lib.hid (awake_any X ht)
    go_wp2_with fail
    refine H2.out.mono ?_
    rintro e X2 ⟨rfl, b5⟩
    go_wp2
    go_ret
    exact ⟨rfl, bthen bW b5⟩
  case pos =>
    have hd : decide (n + n' ≤ 60) = true := by simp; omega
    have hn6 : n ≤ 60 := by omega
    have hn6' : n' ≤ 60 := by omega
    have lx := ha.lim.mono hn6
    have ly := hb.lim.mono hn6'
    have HEX := Lib.hid (fun W h h' => ext_any (s := s) (t := t) (A := A) (A' := A') (n := n) (n' := n') (c := c) (c' := c') (x := x) (y := y) W h h' (by omega) (by omega))
    have HER := Lib.hid (fun W h h' => refExt_any (s := s) (t := t) (A := A) (A' := A') (n := n) (n' := n') (c := c) (c' := c') (x := x) (y := y) W h h' (by omega) (by omega))
    have HGC : Hid (∀ W, AInt W s A n c x → AInt W t A' n' c' y → Calls Tryd.prog 48 #[.agg #[.bool s, .slice A n c], .agg #[.bool t, .slice A' n' c']] W (RetInt W (exG x y))) := fun W h h' => gcd_any W h h' (by omega) (by omega)
    generalize exG x y = g at *
    generalize exU x y = u at *
    generalize exV x y = v at *
    obtain ⟨o2_0, o2_1⟩ := pa.cells1
    obtain ⟨o3_0, o3_1⟩ := pb.cells1
    go_wp2_with fail
    refine (HEX.out _ ha hb).mono ?_
    rintro e X1 ⟨s5, A5, n5, c5, s6, A6, n6, c6, s7, A7, n7, c7, rfl, i5, i6, i7, dX1⟩
    (replace pa := pa.call dX1); (replace pb := pb.call dX1); (replace ha := ha.call dX1); (replace hb := hb.call dX1); (replace ht := ht.call dX1)
    replace bW := bthen bW dX1
    clear o2_0 o2_1 o3_0 o3_1
    have lt2_5 := pa.lt
    have lt3_5 := pb.lt
    obtain ⟨X2a, hX2a⟩ : ∃ Y, Y = X1.alloc (.cells #[.bool s5, .slice A5 n5 c5] 24) := ⟨_, rfl⟩
    have dbX2a : Below X1.heap.size X1 X2a := by rw [hX2a]; exact bone _ _
    have eX2a : X1.heap.size = X1.heap.size := by first | rfl | (rw [rfl]; simp)
    have p5 : Pr X2a (X1.heap.size) s5 A5 n5 c5 := by rw [← eX2a, hX2a]; exact Pr.new _ _ _ _ _
    (replace pa := pa.call dbX2a); (replace pb := pb.call dbX2a); (replace ha := ha.call dbX2a); (replace hb := hb.call dbX2a); (replace ht := ht.call dbX2a); (replace i5 := i5.call dbX2a); (replace i6 := i6.call dbX2a); (replace i7 := i7.call dbX2a)
    replace bW := bthen bW dbX2a
    obtain ⟨X2b, hX2b⟩ : ∃ Y, Y = X2a.alloc (.cells #[.bool s6, .slice A6 n6 c6] 24) := ⟨_, rfl⟩
    have dbX2b : Below X2a.heap.size X2a X2b := by rw [hX2b]; exact bone _ _
    have eX2b : X2a.heap.size = X1.heap.size + 1 := by first | rfl | (rw [hX2a]; simp)
    have p6 : Pr X2b (X1.heap.size + 1) s6 A6 n6 c6 := by rw [← eX2b, hX2b]; exact Pr.new _ _ _ _ _
    (replace pa := pa.call dbX2b); (replace pb := pb.call dbX2b); (replace ha := ha.call dbX2b); (replace hb := hb.call dbX2b); (replace ht := ht.call dbX2b); (replace p5 := p5.call dbX2b); (replace i5 := i5.call dbX2b); (replace i6 := i6.call dbX2b); (replace i7 := i7.call dbX2b)
    replace bW := bthen bW dbX2b
    obtain ⟨X2, hX2⟩ : ∃ Y, Y = X2b.alloc (.cells #[.bool s7, .slice A7 n7 c7] 24) := ⟨_, rfl⟩
    have dbX2 : Below X2b.heap.size X2b X2 := by rw [hX2]; exact bone _ _
    have eX2 : X2b.heap.size = X1.heap.size + 1 + 1 := by first | rfl | (rw [hX2b, hX2a]; simp)
    have p7 : Pr X2 (X1.heap.size + 1 + 1) s7 A7 n7 c7 := by rw [← eX2, hX2]; exact Pr.new _ _ _ _ _
    (replace pa := pa.call dbX2); (replace pb := pb.call dbX2); (replace ha := ha.call dbX2); (replace hb := hb.call dbX2); (replace ht := ht.call dbX2); (replace p5 := p5.call dbX2); (replace p6 := p6.call dbX2); (replace i5 := i5.call dbX2); (replace i6 := i6.call dbX2); (replace i7 := i7.call dbX2)
    replace bW := bthen bW dbX2
    go_upto_region 4 with (fail)
    rw [← hX2a, ← hX2b, ← hX2]
    clear eX2 hX2 dbX2 eX2b hX2b dbX2b eX2a hX2a dbX2a
    generalize X1.heap.size = g5 at *
    obtain ⟨o2_0, o2_1⟩ := pa.cells1
    obtain ⟨o3_0, o3_1⟩ := pb.cells1
    go_wp2_with fail
    refine (HER.out _ ha hb).mono ?_
    rintro e X3 ⟨s8, A8, n8, c8, s9, A9, n9, c9, s10, A10, n10, c10, rfl, i8, i9, i10, dX3⟩
    (replace pa := pa.call dX3); (replace pb := pb.call dX3); (replace p5 := p5.call dX3); (replace p6 := p6.call dX3); (replace p7 := p7.call dX3); (replace ha := ha.call dX3); (replace hb := hb.call dX3); (replace i5 := i5.call dX3); (replace i6 := i6.call dX3); (replace i7 := i7.call dX3); (replace ht := ht.call dX3)
    replace bW := bthen bW dX3
    clear o2_0 o2_1 o3_0 o3_1
    have lt5_8 := p5.lt
    have lt6_8 := p6.lt
    have lt7_8 := p7.lt
    obtain ⟨X4a, hX4a⟩ : ∃ Y, Y = X3.alloc (.cells #[.bool s8, .slice A8 n8 c8] 24) := ⟨_, rfl⟩
    have dbX4a : Below X3.heap.size X3 X4a := by rw [hX4a]; exact bone _ _
    have eX4a : X3.heap.size = X3.heap.size := by first | rfl | (rw [rfl]; simp)
    have p8 : Pr X4a (X3.heap.size) s8 A8 n8 c8 := by rw [← eX4a, hX4a]; exact Pr.new _ _ _ _ _
    (replace pa := pa.call dbX4a); (replace pb := pb.call dbX4a); (replace p5 := p5.call dbX4a); (replace p6 := p6.call dbX4a); (replace p7 := p7.call dbX4a); (replace ha := ha.call dbX4a); (replace hb := hb.call dbX4a); (replace i5 := i5.call dbX4a); (replace i6 := i6.call dbX4a); (replace i7 := i7.call dbX4a); (replace ht := ht.call dbX4a); (replace i8 := i8.call dbX4a); (replace i9 := i9.call dbX4a); (replace i10 := i10.call dbX4a)
    replace bW := bthen bW dbX4a
    obtain ⟨X4b, hX4b⟩ : ∃ Y, Y = X4a.alloc (.cells #[.bool s9, .slice A9 n9 c9] 24) := ⟨_, rfl⟩
    have dbX4b : Below X4a.heap.size X4a X4b := by rw [hX4b]; exact bone _ _
    have eX4b : X4a.heap.size = X3.heap.size + 1 := by first | rfl | (rw [hX4a]; simp)
    have p9 : Pr X4b (X3.heap.size + 1) s9 A9 n9 c9 := by rw [← eX4b, hX4b]; exact Pr.new _ _ _ _ _
    (replace pa := pa.call dbX4b); (replace pb := pb.call dbX4b); (replace p5 := p5.call dbX4b); (replace p6 := p6.call dbX4b); (replace p7 := p7.call dbX4b); (replace ha := ha.call dbX4b); (replace hb := hb.call dbX4b); (replace i5 := i5.call dbX4b); (replace i6 := i6.call dbX4b); (replace i7 := i7.call dbX4b); (replace ht := ht.call dbX4b); (replace p8 := p8.call dbX4b); (replace i8 := i8.call dbX4b); (replace i9 := i9.call dbX4b); (replace i10 := i10.call dbX4b)
    replace bW := bthen bW dbX4b
    obtain ⟨X4, hX4⟩ : ∃ Y, Y = X4b.alloc (.cells #[.bool s10, .slice A10 n10 c10] 24) := ⟨_, rfl⟩
    have dbX4 : Below X4b.heap.size X4b X4 := by rw [hX4]; exact bone _ _
    have eX4 : X4b.heap.size = X3.heap.size + 1 + 1 := by first | rfl | (rw [hX4b, hX4a]; simp)
    have p10 : Pr X4 (X3.heap.size + 1 + 1) s10 A10 n10 c10 := by rw [← eX4, hX4]; exact Pr.new _ _ _ _ _
    (replace pa := pa.call dbX4); (replace pb := pb.call dbX4); (replace p5 := p5.call dbX4); (replace p6 := p6.call dbX4); (replace p7 := p7.call dbX4); (replace ha := ha.call dbX4); (replace hb := hb.call dbX4); (replace i5 := i5.call dbX4); (replace i6 := i6.call dbX4); (replace i7 := i7.call dbX4); (replace ht := ht.call dbX4); (replace p8 := p8.call dbX4); (replace p9 := p9.call dbX4); (replace i8 := i8.call dbX4); (replace i9 := i9.call dbX4); (replace i10 := i10.call dbX4)
    replace bW := bthen bW dbX4
    go_upto_region 5 with (fail)
    rw [← hX4a, ← hX4b, ← hX4]
    clear eX4 hX4 dbX4 eX4b hX4b dbX4b eX4a hX4a dbX4a
    generalize X3.heap.size = g8 at *
    refine wp_region_held_drew (S := fun w' => Below X4.heap.size X4 w') (by kernel_rfl) (bdrew X4) (fun hS => ?_)
    have hS : Below X4.heap.size X4 X4.drew := bdrew X4
    generalize X4.drew = u0 at hS ⊢
    refine wpAnyH_take (i := 0) (oi := ⟨_, _, _, _, _, _⟩) (v := ?_) rfl (by kernel_rfl) (by kernel_rfl) (by kernel_rfl) (fun _ _ _ h => h) (Or.inl ⟨by rfl, ?_⟩) hS ?_
    rotate_left
    · intro w' hS'; have p' := pa.call hS'; have c0 := p'.cell0; have c1 := p'.cell1; (first | (go_simp; done) | (go_simp; with_reducible rfl) | with_reducible rfl)
    (try simp only [Act.put, List.setIfInBounds_toArray, List.set_cons_zero, List.set_cons_succ])
    refine wpAnyH_take (i := 1) (oi := ⟨_, _, _, _, _, _⟩) (v := ?_) rfl (by kernel_rfl) (by kernel_rfl) (by kernel_rfl) (fun _ _ _ h => h) (Or.inl ⟨by rfl, ?_⟩) hS ?_
    rotate_left
    · intro w' hS'; have p' := pb.call hS'; have c0 := p'.cell0; have c1 := p'.cell1; (first | (go_simp; done) | (go_simp; with_reducible rfl) | with_reducible rfl)
    (try simp only [Act.put, List.setIfInBounds_toArray, List.set_cons_zero, List.set_cons_succ])
    refine wpAnyH_take (i := 3) (oi := ⟨_, _, _, _, _, _⟩) (v := ?_) rfl (by kernel_rfl) (by kernel_rfl) (by kernel_rfl) (fun _ _ _ h => h) (Or.inl ⟨by rfl, ?_⟩) hS ?_
    rotate_left
    · intro w' hS'; have p' := p8.call hS'; have c0 := p'.cell0; have c1 := p'.cell1; (first | (go_simp; done) | (go_simp; with_reducible rfl) | with_reducible rfl)
    (try simp only [Act.put, List.setIfInBounds_toArray, List.set_cons_zero, List.set_cons_succ])
    refine wpAnyH_ready (rs := [2]) (by kernel_rfl) (by simp) ?_
    refine AllReadyH.cons (o := ⟨_, _, _, _, _, _⟩) rfl (fun K hK => ?_) AllReadyH.nil
    go_simp
    refine (HGC.out _ (ha.call hS) (hb.call hS)).mono ?_
    rintro e u1 ⟨t1, B1, m1, e1, rfl, j1, d1⟩
    replace hS := bthen hS d1
    first | (with_reducible refine hK.out _ _ hS (fun _ => ?_)) | (go_wp2_with fail; with_reducible refine hK.out _ _ hS (fun _ => ?_))
    clear hK K
    (try simp only [Act.put, List.setIfInBounds_toArray, List.set_cons_zero, List.set_cons_succ])
    refine wpAnyH_ready (rs := [4]) (by kernel_rfl) (by simp) ?_
    refine AllReadyH.cons (o := ⟨_, _, _, _, _, _⟩) rfl (fun K hK => ?_) AllReadyH.nil
    go_simp
    refine (same_true _ j1 (i8.call hS) rfl).mono ?_
    rintro e u2 ⟨rfl, d2⟩
    replace hS := bthen hS d2
    (replace j1 := j1.call d2)
    first | (with_reducible refine hK.out _ _ hS (fun _ => ?_)) | (go_wp2_with fail; with_reducible refine hK.out _ _ hS (fun _ => ?_))
    clear hK K
    (try simp only [Act.put, List.setIfInBounds_toArray, List.set_cons_zero, List.set_cons_succ])
    refine wpAnyH_take (i := 5) (oi := ⟨_, _, _, _, _, _⟩) (v := ?_) rfl (by kernel_rfl) (by kernel_rfl) (by kernel_rfl) (fun _ _ _ h => h) (Or.inl ⟨by rfl, ?_⟩) hS ?_
    rotate_left
    · intro w' hS'; (first | (go_simp; done) | (go_simp; with_reducible rfl) | with_reducible rfl)
    (try simp only [Act.put, List.setIfInBounds_toArray, List.set_cons_zero, List.set_cons_succ])
    refine wpAnyH_take (i := 6) (oi := ⟨_, _, _, _, _, _⟩) (v := ?_) rfl (by kernel_rfl) (by kernel_rfl) (by kernel_rfl) (fun _ _ _ h => h) (Or.inl ⟨by rfl, ?_⟩) hS ?_
    rotate_left
    · intro w' hS'; have p' := p5.call hS'; have c0 := p'.cell0; have c1 := p'.cell1; (first | (go_simp; done) | (go_simp; with_reducible rfl) | with_reducible rfl)
    (try simp only [Act.put, List.setIfInBounds_toArray, List.set_cons_zero, List.set_cons_succ])
    refine wpAnyH_take (i := 7) (oi := ⟨_, _, _, _, _, _⟩) (v := ?_) rfl (by kernel_rfl) (by kernel_rfl) (by kernel_rfl) (fun _ _ _ h => h) (Or.inl ⟨by rfl, ?_⟩) hS ?_
    rotate_left
    · intro w' hS'; have p' := p8.call hS'; have c0 := p'.cell0; have c1 := p'.cell1; (first | (go_simp; done) | (go_simp; with_reducible rfl) | with_reducible rfl)
    (try simp only [Act.put, List.setIfInBounds_toArray, List.set_cons_zero, List.set_cons_succ])
    refine wpAnyH_ready (rs := [8]) (by kernel_rfl) (by simp) ?_
    refine AllReadyH.cons (o := ⟨_, _, _, _, _, _⟩) rfl (fun K hK => ?_) AllReadyH.nil
    go_simp
    refine (same_true _ (i5.call hS) (i8.call hS) rfl).mono ?_
    rintro e u3 ⟨rfl, d3⟩
    replace hS := bthen hS d3
    (replace j1 := j1.call d3)
    first | (with_reducible refine hK.out _ _ hS (fun _ => ?_)) | (go_wp2_with fail; with_reducible refine hK.out _ _ hS (fun _ => ?_))
    clear hK K
    (try simp only [Act.put, List.setIfInBounds_toArray, List.set_cons_zero, List.set_cons_succ])
    refine wpAnyH_take (i := 9) (oi := ⟨_, _, _, _, _, _⟩) (v := ?_) rfl (by kernel_rfl) (by kernel_rfl) (by kernel_rfl) (fun _ _ _ h => h) (Or.inl ⟨by rfl, ?_⟩) hS ?_
    rotate_left
    · intro w' hS'; (first | (go_simp; done) | (go_simp; with_reducible rfl) | with_reducible rfl)
    (try simp only [Act.put, List.setIfInBounds_toArray, List.set_cons_zero, List.set_cons_succ])
    refine wpAnyH_take (i := 10) (oi := ⟨_, _, _, _, _, _⟩) (v := ?_) rfl (by kernel_rfl) (by kernel_rfl) (by kernel_rfl) (fun _ _ _ h => h) (Or.inl ⟨by rfl, ?_⟩) hS ?_
    rotate_left
    · intro w' hS'; (first | (go_simp; done) | (go_simp; with_reducible rfl) | with_reducible rfl)
    (try simp only [Act.put, List.setIfInBounds_toArray, List.set_cons_zero, List.set_cons_succ])
    refine wpAnyH_take (i := 11) (oi := ⟨_, _, _, _, _, _⟩) (v := ?_) rfl (by kernel_rfl) (by kernel_rfl) (by kernel_rfl) (fun _ _ _ h => h) (Or.inl ⟨by rfl, ?_⟩) hS ?_
    rotate_left
    · intro w' hS'; have p' := p6.call hS'; have c0 := p'.cell0; have c1 := p'.cell1; (first | (go_simp; done) | (go_simp; with_reducible rfl) | with_reducible rfl)
    (try simp only [Act.put, List.setIfInBounds_toArray, List.set_cons_zero, List.set_cons_succ])
    refine wpAnyH_take (i := 12) (oi := ⟨_, _, _, _, _, _⟩) (v := ?_) rfl (by kernel_rfl) (by kernel_rfl) (by kernel_rfl) (fun _ _ _ h => h) (Or.inl ⟨by rfl, ?_⟩) hS ?_
    rotate_left
    · intro w' hS'; have p' := p9.call hS'; have c0 := p'.cell0; have c1 := p'.cell1; (first | (go_simp; done) | (go_simp; with_reducible rfl) | with_reducible rfl)
    (try simp only [Act.put, List.setIfInBounds_toArray, List.set_cons_zero, List.set_cons_succ])
    refine wpAnyH_ready (rs := [13]) (by kernel_rfl) (by simp) ?_
    refine AllReadyH.cons (o := ⟨_, _, _, _, _, _⟩) rfl (fun K hK => ?_) AllReadyH.nil
    go_simp
    refine (same_true _ (i6.call hS) (i9.call hS) rfl).mono ?_
    rintro e u4 ⟨rfl, d4⟩
    replace hS := bthen hS d4
    (replace j1 := j1.call d4)
    first | (with_reducible refine hK.out _ _ hS (fun _ => ?_)) | (go_wp2_with fail; with_reducible refine hK.out _ _ hS (fun _ => ?_))
    clear hK K
    (try simp only [Act.put, List.setIfInBounds_toArray, List.set_cons_zero, List.set_cons_succ])
    refine wpAnyH_take (i := 14) (oi := ⟨_, _, _, _, _, _⟩) (v := ?_) rfl (by kernel_rfl) (by kernel_rfl) (by kernel_rfl) (fun _ _ _ h => h) (Or.inl ⟨by rfl, ?_⟩) hS ?_
    rotate_left
    · intro w' hS'; (first | (go_simp; done) | (go_simp; with_reducible rfl) | with_reducible rfl)
    (try simp only [Act.put, List.setIfInBounds_toArray, List.set_cons_zero, List.set_cons_succ])
    refine wpAnyH_take (i := 15) (oi := ⟨_, _, _, _, _, _⟩) (v := ?_) rfl (by kernel_rfl) (by kernel_rfl) (by kernel_rfl) (fun _ _ _ h => h) (Or.inl ⟨by rfl, ?_⟩) hS ?_
    rotate_left
    · intro w' hS'; (first | (go_simp; done) | (go_simp; with_reducible rfl) | with_reducible rfl)
    (try simp only [Act.put, List.setIfInBounds_toArray, List.set_cons_zero, List.set_cons_succ])
    refine wpAnyH_take (i := 16) (oi := ⟨_, _, _, _, _, _⟩) (v := ?_) rfl (by kernel_rfl) (by kernel_rfl) (by kernel_rfl) (fun _ _ _ h => h) (Or.inl ⟨by rfl, ?_⟩) hS ?_
    rotate_left
    · intro w' hS'; have p' := p7.call hS'; have c0 := p'.cell0; have c1 := p'.cell1; (first | (go_simp; done) | (go_simp; with_reducible rfl) | with_reducible rfl)
    (try simp only [Act.put, List.setIfInBounds_toArray, List.set_cons_zero, List.set_cons_succ])
    refine wpAnyH_take (i := 17) (oi := ⟨_, _, _, _, _, _⟩) (v := ?_) rfl (by kernel_rfl) (by kernel_rfl) (by kernel_rfl) (fun _ _ _ h => h) (Or.inl ⟨by rfl, ?_⟩) hS ?_
    rotate_left
    · intro w' hS'; have p' := p10.call hS'; have c0 := p'.cell0; have c1 := p'.cell1; (first | (go_simp; done) | (go_simp; with_reducible rfl) | with_reducible rfl)
    (try simp only [Act.put, List.setIfInBounds_toArray, List.set_cons_zero, List.set_cons_succ])
    refine wpAnyH_ready (rs := [18]) (by kernel_rfl) (by simp) ?_
    refine AllReadyH.cons (o := ⟨_, _, _, _, _, _⟩) rfl (fun K hK => ?_) AllReadyH.nil
    go_simp
    refine (same_true _ (i7.call hS) (i10.call hS) rfl).mono ?_
    rintro e u5 ⟨rfl, d5⟩
    replace hS := bthen hS d5
    (replace j1 := j1.call d5)
    first | (with_reducible refine hK.out _ _ hS (fun _ => ?_)) | (go_wp2_with fail; with_reducible refine hK.out _ _ hS (fun _ => ?_))
    clear hK K
    (try simp only [Act.put, List.setIfInBounds_toArray, List.set_cons_zero, List.set_cons_succ])
    refine wpAnyH_take (i := 19) (oi := ⟨_, _, _, _, _, _⟩) (v := ?_) rfl (by kernel_rfl) (by kernel_rfl) (by kernel_rfl) (fun _ _ _ h => h) (Or.inl ⟨by rfl, ?_⟩) hS ?_
    rotate_left
    · intro w' hS'; (first | (go_simp; done) | (go_simp; with_reducible rfl) | with_reducible rfl)
    (try simp only [Act.put, List.setIfInBounds_toArray, List.set_cons_zero, List.set_cons_succ])
    refine wpAnyH_take (i := 20) (oi := ⟨_, _, _, _, _, _⟩) (v := ?_) rfl (by kernel_rfl) (by kernel_rfl) (by kernel_rfl) (fun _ _ _ h => h) (Or.inl ⟨by rfl, ?_⟩) hS ?_
    rotate_left
    · intro w' hS'; (first | (go_simp; done) | (go_simp; with_reducible rfl) | with_reducible rfl)
    (try simp only [Act.put, List.setIfInBounds_toArray, List.set_cons_zero, List.set_cons_succ])
    refine wpAnyH_ready (rs := [21]) (by kernel_rfl) (by simp) ?_
    refine AllReadyH.cons (o := ⟨_, _, _, _, _, _⟩) rfl (fun K hK => ?_) AllReadyH.nil
    go_simp
    refine (awake_any _ (ht.call hS)).mono ?_
    rintro e u6 ⟨rfl, d6⟩
    replace hS := bthen hS d6
    (replace j1 := j1.call d6)
    first | (with_reducible refine hK.out _ _ hS (fun _ => ?_)) | (go_wp2_with fail; with_reducible refine hK.out _ _ hS (fun _ => ?_))
    clear hK K
    (try simp only [Act.put, List.setIfInBounds_toArray, List.set_cons_zero, List.set_cons_succ])
    refine wpAnyH_take (i := 22) (oi := ⟨_, _, _, _, _, _⟩) (v := ?_) rfl (by kernel_rfl) (by kernel_rfl) (by kernel_rfl) (fun _ _ _ h => h) (Or.inl ⟨by rfl, ?_⟩) hS ?_
    rotate_left
    · intro w' hS'; (first | (go_simp; done) | (go_simp; with_reducible rfl) | with_reducible rfl)
    (try simp only [Act.put, List.setIfInBounds_toArray, List.set_cons_zero, List.set_cons_succ])
    refine wpAnyH_take (i := 23) (oi := ⟨_, _, _, _, _, _⟩) (v := ?_) rfl (by kernel_rfl) (by kernel_rfl) (by kernel_rfl) (fun _ _ _ h => h) (Or.inl ⟨by rfl, ?_⟩) hS ?_
    rotate_left
    · intro w' hS'; (first | (go_simp; done) | (go_simp; with_reducible rfl) | with_reducible rfl)
    (try simp only [Act.put, List.setIfInBounds_toArray, List.set_cons_zero, List.set_cons_succ])
    refine wpAnyH_done (by kernel_rfl) ?_ _
    go_wp2
    go_ret
    exact ⟨rfl, bthen bW hS⟩
end Go.Proofs.YteicjbinginamaaDoor
