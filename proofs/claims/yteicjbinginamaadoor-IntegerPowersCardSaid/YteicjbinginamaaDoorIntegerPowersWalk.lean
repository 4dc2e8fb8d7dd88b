/- Walk of IntegerPowers. -/
import Derived.Test.YteicjbinginamaaDoorSqrtR
import Derived.Test.YteicjbinginamaaDoorOpen
namespace Go.Proofs.YteicjbinginamaaDoor
open Go.RowKit
set_option linter.unusedVariables false

/-- Pow of both, for every exponent -/
theorem pow_both {s : Bool} {A : Option Addr} {n c : Nat} {x : Int} (k : Int) (hn : n ≤ 1048576) : ∃ z code, (∀ w, AInt w s A n c x → Calls Tryd.prog 40 #[.agg #[.bool s, .slice A n c], .int .i64 k] w (RetIE w z code)) ∧
    (∀ w, AInt w s A n c x → Calls Tryd.prog 41 #[.agg #[.bool s, .slice A n c], .int .i64 k] w (RetIE w z code)) := by
  by_cases hk : k < 0 ∨ 64 < k
  · exact ⟨0, 5, fun w _ => pow_bad w hk, fun w _ => refPow_bad w hk⟩
  · obtain ⟨j, rfl⟩ : ∃ j : Nat, k = j := ⟨k.toNat, by omega⟩
    exact ⟨_, _, fun w h => pow_any w h hn (by omega), fun w h => refPow_any w h hn (by omega)⟩

set_option maxHeartbeats 4000000 in
set_option maxRecDepth 100000 in
theorem law_IntegerPowers {s : Bool} {A : Option Addr} {n c : Nat} {x : Int} (w : World) (ha : AInt w s A n c x) (hn : n ≤ 35184372087808) (k : Int) (hk : (Lit.int .i64 k).wf = true) (ht : Tab w) :
    Calls Tryd.prog 9 #[.agg #[.bool s, .slice A n c], .int .i64 k] w (RetV w (.bool true)) := by
  obtain ⟨W, hW⟩ : ∃ W, W = w.alloc (.cells #[.bool s, .slice A n c] 24) := ⟨_, rfl⟩
  have bW : Below w.heap.size w W := by rw [hW]; exact bone w _
  have pa : Pr W w.heap.size s A n c := by rw [hW]; exact Pr.new w s A n c
  have a0 := pa.cell0
  have a1 := pa.cell1
  have HL := Lib.hid (light1 (s := s) (A := A) (n := n) (c := c) W hn)
  have hsz : W.heap.size = w.heap.size + 1 := by rw [hW]; simp
  obtain ⟨W2, hW2⟩ : ∃ W2, W2 = W.alloc (.cells #[.bool s, .slice A n c] 24) := ⟨_, rfl⟩
  have b2 : Below W.heap.size W W2 := by rw [hW2]; exact bone _ _
  rw [← hW2, hsz] at HL
  clear hk
  go_enter Tryd.func9, Tryd.ntmps9
  go_wp2_with fail
  rw [← hW]
  go_wp2_with fail
  rw [← hW2]
  refine HL.out.mono ?_
  rintro e X ⟨rfl, b3⟩
  replace b2 := bthen b2 b3
  (replace pa := pa.call b2)
  replace bW := bthen bW b2
  (replace ha := ha.call bW); (replace ht := ht.call bW)
  clear HL b3 b2 hW hW2 hsz a0 a1
  obtain ⟨a0, a1⟩ := pa.cells1
  by_cases hl : n ≤ 60
  case neg =>
    have hd : decide (n ≤ 60) = false := by simp; omega
    have H2 := Lib.hid (awake_any X ht)
    go_wp2_with fail
    refine H2.out.mono ?_
    rintro e X2 ⟨rfl, b5⟩
    go_wp2
    go_ret
    exact ⟨rfl, bthen bW b5⟩
  case pos =>
    have hd : decide (n ≤ 60) = true := by simp; omega
    by_cases hl8 : n ≤ 8
    case neg =>
      have hd8 : decide ((8 : Int) < (n : Int)) = true := by simp; omega
      have hd8' : decide (8 < n) = true := by simp; omega
      have H2 := Lib.hid (awake_any X ht)
      go_wp2_with fail
      refine H2.out.mono ?_
      rintro e X2 ⟨rfl, b5⟩
      go_wp2
      go_ret
      exact ⟨rfl, bthen bW b5⟩
    case pos =>
      have hd8 : decide ((8 : Int) < (n : Int)) = false := by simp; omega
      have hd8' : decide (8 < n) = false := by simp; omega
      obtain ⟨z, code, hp, hq⟩ := pow_both (s := s) (A := A) (n := n) (c := c) (x := x) k (by omega)
      have H1 := Lib.hid hp
      have H2 := Lib.hid hq
      clear hp hq
      go_upto_region 3 with (fail)
      go_wp2_with fail
      refine (H1.out _ ha).mono ?_
      rintro e X1 ⟨s1, A1, n1, c1, rfl, i1, d1⟩
      clear a0 a1 H1
      obtain ⟨X2, hX2⟩ : ∃ Y, Y = X1.alloc (.cells #[.bool s1, .slice A1 n1 c1] 24) := ⟨_, rfl⟩
      have db : Below X1.heap.size X1 X2 := by rw [hX2]; exact bone _ _
      have p5 : Pr X2 X1.heap.size s1 A1 n1 c1 := by rw [hX2]; exact Pr.new _ _ _ _ _
      (replace pa := pa.call d1); (replace ha := ha.call d1); (replace ht := ht.call d1)
      (replace pa := pa.call db); (replace ha := ha.call db); (replace ht := ht.call db); (replace i1 := i1.call db)
      replace bW := bthen (bthen bW d1) db
      clear db d1
      go_upto_region 4 with (fail)
      rw [← hX2]
      clear hX2
      generalize X1.heap.size = gp5 at *
      obtain ⟨a0, a1⟩ := pa.cells1
      go_wp2_with fail
      refine (H2.out _ ha).mono ?_
      rintro e X3 ⟨s3, A3, n3, c3, rfl, i3, d3⟩
      clear a0 a1 H2
      obtain ⟨X4, hX4⟩ : ∃ Y, Y = X3.alloc (.cells #[.bool s3, .slice A3 n3 c3] 24) := ⟨_, rfl⟩
      have db : Below X3.heap.size X3 X4 := by rw [hX4]; exact bone _ _
      have p7 : Pr X4 X3.heap.size s3 A3 n3 c3 := by rw [hX4]; exact Pr.new _ _ _ _ _
      (replace pa := pa.call d3); (replace ha := ha.call d3); (replace ht := ht.call d3); (replace p5 := p5.call d3); (replace i1 := i1.call d3)
      (replace pa := pa.call db); (replace ha := ha.call db); (replace ht := ht.call db); (replace p5 := p5.call db); (replace i1 := i1.call db); (replace i3 := i3.call db)
      replace bW := bthen (bthen bW d3) db
      clear db d3
      go_upto_region 5 with (fail)
      rw [← hX4]
      clear hX4
      generalize X3.heap.size = gp7 at *
      obtain ⟨a0, a1⟩ := pa.cells1
      have H3 := Lib.hid (sqrt_any X4 ha (by omega))
      go_wp2_with fail
      refine H3.out.mono ?_
      rintro e X5 ⟨z5, cd5, ⟨s5, A5, n5, c5, rfl, i5, d5⟩, hs5⟩
      have HS5 := Lib.hid hs5
      clear a0 a1 H3 hs5
      obtain ⟨X6, hX6⟩ : ∃ Y, Y = X5.alloc (.cells #[.bool s5, .slice A5 n5 c5] 24) := ⟨_, rfl⟩
      have db : Below X5.heap.size X5 X6 := by rw [hX6]; exact bone _ _
      have p9 : Pr X6 X5.heap.size s5 A5 n5 c5 := by rw [hX6]; exact Pr.new _ _ _ _ _
      (replace pa := pa.call d5); (replace ha := ha.call d5); (replace ht := ht.call d5); (replace p5 := p5.call d5); (replace i1 := i1.call d5); (replace p7 := p7.call d5); (replace i3 := i3.call d5)
      (replace pa := pa.call db); (replace ha := ha.call db); (replace ht := ht.call db); (replace p5 := p5.call db); (replace i1 := i1.call db); (replace p7 := p7.call db); (replace i3 := i3.call db); (replace i5 := i5.call db)
      replace bW := bthen (bthen bW d5) db
      clear db d5
      go_upto_region 6 with (fail)
      rw [← hX6]
      clear hX6
      generalize X5.heap.size = gp9 at *
      obtain ⟨a0, a1⟩ := pa.cells1
      have H4 := Lib.hid (refSqrt_any X6 ha (by omega))
      go_wp2_with fail
      refine H4.out.mono ?_
      rintro e X7 ⟨z7, cd7, ⟨s7, A7, n7, c7, rfl, i7, d7⟩, hs7⟩
      obtain ⟨hzz, hcc⟩ := HS5.out.uniq hs7
      subst hzz hcc
      clear a0 a1 H4 hs7 HS5
      obtain ⟨X8, hX8⟩ : ∃ Y, Y = X7.alloc (.cells #[.bool s7, .slice A7 n7 c7] 24) := ⟨_, rfl⟩
      have db : Below X7.heap.size X7 X8 := by rw [hX8]; exact bone _ _
      have p11 : Pr X8 X7.heap.size s7 A7 n7 c7 := by rw [hX8]; exact Pr.new _ _ _ _ _
      (replace pa := pa.call d7); (replace ha := ha.call d7); (replace ht := ht.call d7); (replace p5 := p5.call d7); (replace i1 := i1.call d7); (replace p7 := p7.call d7); (replace i3 := i3.call d7); (replace p9 := p9.call d7); (replace i5 := i5.call d7)
      (replace pa := pa.call db); (replace ha := ha.call db); (replace ht := ht.call db); (replace p5 := p5.call db); (replace i1 := i1.call db); (replace p7 := p7.call db); (replace i3 := i3.call db); (replace p9 := p9.call db); (replace i5 := i5.call db); (replace i7 := i7.call db)
      replace bW := bthen (bthen bW d7) db
      clear db d7
      go_upto_region 7 with (fail)
      rw [← hX8]
      clear hX8
      generalize X7.heap.size = gp11 at *
      refine wp_region_held_drew (S := fun w' => Below X8.heap.size X8 w') (by kernel_rfl) (bdrew X8) (fun hS => ?_)
      have hS : Below X8.heap.size X8 X8.drew := bdrew X8
      generalize X8.drew = u0 at hS ⊢
      refine wpAnyH_take (i := 0) (oi := ⟨_, _, _, _, _, _⟩) (v := ?_) rfl (by kernel_rfl) (by kernel_rfl) (by kernel_rfl) (fun _ _ _ h => h) (Or.inl ⟨by rfl, ?_⟩) hS ?_
      rotate_left
      · intro w' hS'; (first | (go_simp; done) | (go_simp; with_reducible rfl) | with_reducible rfl)
      (try simp only [Act.put, List.setIfInBounds_toArray, List.set_cons_zero, List.set_cons_succ])
      refine wpAnyH_take (i := 1) (oi := ⟨_, _, _, _, _, _⟩) (v := ?_) rfl (by kernel_rfl) (by kernel_rfl) (by kernel_rfl) (fun _ _ _ h => h) (Or.inl ⟨by rfl, ?_⟩) hS ?_
      rotate_left
      · intro w' hS'; (first | (go_simp; done) | (go_simp; with_reducible rfl) | with_reducible rfl)
      (try simp only [Act.put, List.setIfInBounds_toArray, List.set_cons_zero, List.set_cons_succ])
      refine wpAnyH_take (i := 2) (oi := ⟨_, _, _, _, _, _⟩) (v := ?_) rfl (by kernel_rfl) (by kernel_rfl) (by kernel_rfl) (fun _ _ _ h => h) (Or.inl ⟨by rfl, ?_⟩) hS ?_
      rotate_left
      · intro w' hS'; (first | (go_simp; done) | (go_simp; with_reducible rfl) | with_reducible rfl)
      (try simp only [Act.put, List.setIfInBounds_toArray, List.set_cons_zero, List.set_cons_succ])
      refine wpAnyH_take (i := 3) (oi := ⟨_, _, _, _, _, _⟩) (v := ?_) rfl (by kernel_rfl) (by kernel_rfl) (by kernel_rfl) (fun _ _ _ h => h) (Or.inl ⟨by rfl, ?_⟩) hS ?_
      rotate_left
      · intro w' hS'; (first | (go_simp; done) | (go_simp; with_reducible rfl) | with_reducible rfl)
      (try simp only [Act.put, List.setIfInBounds_toArray, List.set_cons_zero, List.set_cons_succ])
      refine wpAnyH_take (i := 4) (oi := ⟨_, _, _, _, _, _⟩) (v := ?_) rfl (by kernel_rfl) (by kernel_rfl) (by kernel_rfl) (fun _ _ _ h => h) (Or.inl ⟨by rfl, ?_⟩) hS ?_
      rotate_left
      · intro w' hS'; have p' := p5.call hS'; have c0 := p'.cell0; have c1 := p'.cell1; (first | (go_simp; done) | (go_simp; with_reducible rfl) | with_reducible rfl)
      (try simp only [Act.put, List.setIfInBounds_toArray, List.set_cons_zero, List.set_cons_succ])
      refine wpAnyH_take (i := 5) (oi := ⟨_, _, _, _, _, _⟩) (v := ?_) rfl (by kernel_rfl) (by kernel_rfl) (by kernel_rfl) (fun _ _ _ h => h) (Or.inl ⟨by rfl, ?_⟩) hS ?_
      rotate_left
      · intro w' hS'; have p' := p7.call hS'; have c0 := p'.cell0; have c1 := p'.cell1; (first | (go_simp; done) | (go_simp; with_reducible rfl) | with_reducible rfl)
      (try simp only [Act.put, List.setIfInBounds_toArray, List.set_cons_zero, List.set_cons_succ])
      refine wpAnyH_ready (rs := [6]) (by kernel_rfl) (by simp) ?_
      refine AllReadyH.cons (o := ⟨_, _, _, _, _, _⟩) rfl (fun K hK => ?_) AllReadyH.nil
      go_simp
      refine (same_true _ (i1.call hS) (i3.call hS) rfl).mono ?_
      rintro e u1 ⟨rfl, d1⟩
      replace hS := bthen hS d1
      first | (with_reducible refine hK.out _ _ hS (fun _ => ?_)) | (go_wp2_with fail; with_reducible refine hK.out _ _ hS (fun _ => ?_))
      clear hK K
      (try simp only [Act.put, List.setIfInBounds_toArray, List.set_cons_zero, List.set_cons_succ])
      refine wpAnyH_take (i := 7) (oi := ⟨_, _, _, _, _, _⟩) (v := ?_) rfl (by kernel_rfl) (by kernel_rfl) (by kernel_rfl) (fun _ _ _ h => h) (Or.inl ⟨by rfl, ?_⟩) hS ?_
      rotate_left
      · intro w' hS'; (first | (go_simp; done) | (go_simp; with_reducible rfl) | with_reducible rfl)
      (try simp only [Act.put, List.setIfInBounds_toArray, List.set_cons_zero, List.set_cons_succ])
      refine wpAnyH_take (i := 8) (oi := ⟨_, _, _, _, _, _⟩) (v := ?_) rfl (by kernel_rfl) (by kernel_rfl) (by kernel_rfl) (fun _ _ _ h => h) (Or.inl ⟨by rfl, ?_⟩) hS ?_
      rotate_left
      · intro w' hS'; (first | (go_simp; done) | (go_simp; with_reducible rfl) | with_reducible rfl)
      (try simp only [Act.put, List.setIfInBounds_toArray, List.set_cons_zero, List.set_cons_succ])
      refine wpAnyH_take (i := 9) (oi := ⟨_, _, _, _, _, _⟩) (v := ?_) rfl (by kernel_rfl) (by kernel_rfl) (by kernel_rfl) (fun _ _ _ h => h) (Or.inl ⟨by rfl, ?_⟩) hS ?_
      rotate_left
      · intro w' hS'; (first | (go_simp; done) | (go_simp; with_reducible rfl) | with_reducible rfl)
      (try simp only [Act.put, List.setIfInBounds_toArray, List.set_cons_zero, List.set_cons_succ])
      refine wpAnyH_take (i := 10) (oi := ⟨_, _, _, _, _, _⟩) (v := ?_) rfl (by kernel_rfl) (by kernel_rfl) (by kernel_rfl) (fun _ _ _ h => h) (Or.inl ⟨by rfl, ?_⟩) hS ?_
      rotate_left
      · intro w' hS'; (first | (go_simp; done) | (go_simp; with_reducible rfl) | with_reducible rfl)
      (try simp only [Act.put, List.setIfInBounds_toArray, List.set_cons_zero, List.set_cons_succ])
      refine wpAnyH_take (i := 11) (oi := ⟨_, _, _, _, _, _⟩) (v := ?_) rfl (by kernel_rfl) (by kernel_rfl) (by kernel_rfl) (fun _ _ _ h => h) (Or.inl ⟨by rfl, ?_⟩) hS ?_
      rotate_left
      · intro w' hS'; (first | (go_simp; done) | (go_simp; with_reducible rfl) | with_reducible rfl)
      (try simp only [Act.put, List.setIfInBounds_toArray, List.set_cons_zero, List.set_cons_succ])
      refine wpAnyH_take (i := 12) (oi := ⟨_, _, _, _, _, _⟩) (v := ?_) rfl (by kernel_rfl) (by kernel_rfl) (by kernel_rfl) (fun _ _ _ h => h) (Or.inl ⟨by rfl, ?_⟩) hS ?_
      rotate_left
      · intro w' hS'; (first | (go_simp; done) | (go_simp; with_reducible rfl) | with_reducible rfl)
      (try simp only [Act.put, List.setIfInBounds_toArray, List.set_cons_zero, List.set_cons_succ])
      refine wpAnyH_take (i := 13) (oi := ⟨_, _, _, _, _, _⟩) (v := ?_) rfl (by kernel_rfl) (by kernel_rfl) (by kernel_rfl) (fun _ _ _ h => h) (Or.inl ⟨by rfl, ?_⟩) hS ?_
      rotate_left
      · intro w' hS'; (first | (go_simp; done) | (go_simp; with_reducible rfl) | with_reducible rfl)
      (try simp only [Act.put, List.setIfInBounds_toArray, List.set_cons_zero, List.set_cons_succ])
      refine wpAnyH_take (i := 14) (oi := ⟨_, _, _, _, _, _⟩) (v := ?_) rfl (by kernel_rfl) (by kernel_rfl) (by kernel_rfl) (fun _ _ _ h => h) (Or.inl ⟨by rfl, ?_⟩) hS ?_
      rotate_left
      · intro w' hS'; have p' := p9.call hS'; have c0 := p'.cell0; have c1 := p'.cell1; (first | (go_simp; done) | (go_simp; with_reducible rfl) | with_reducible rfl)
      (try simp only [Act.put, List.setIfInBounds_toArray, List.set_cons_zero, List.set_cons_succ])
      refine wpAnyH_take (i := 15) (oi := ⟨_, _, _, _, _, _⟩) (v := ?_) rfl (by kernel_rfl) (by kernel_rfl) (by kernel_rfl) (fun _ _ _ h => h) (Or.inl ⟨by rfl, ?_⟩) hS ?_
      rotate_left
      · intro w' hS'; have p' := p11.call hS'; have c0 := p'.cell0; have c1 := p'.cell1; (first | (go_simp; done) | (go_simp; with_reducible rfl) | with_reducible rfl)
      (try simp only [Act.put, List.setIfInBounds_toArray, List.set_cons_zero, List.set_cons_succ])
      refine wpAnyH_ready (rs := [16]) (by kernel_rfl) (by simp) ?_
      refine AllReadyH.cons (o := ⟨_, _, _, _, _, _⟩) rfl (fun K hK => ?_) AllReadyH.nil
      go_simp
      refine (same_true _ (i5.call hS) (i7.call hS) rfl).mono ?_
      rintro e u2 ⟨rfl, d2⟩
      replace hS := bthen hS d2
      first | (with_reducible refine hK.out _ _ hS (fun _ => ?_)) | (go_wp2_with fail; with_reducible refine hK.out _ _ hS (fun _ => ?_))
      clear hK K
      (try simp only [Act.put, List.setIfInBounds_toArray, List.set_cons_zero, List.set_cons_succ])
      refine wpAnyH_take (i := 17) (oi := ⟨_, _, _, _, _, _⟩) (v := ?_) rfl (by kernel_rfl) (by kernel_rfl) (by kernel_rfl) (fun _ _ _ h => h) (Or.inl ⟨by rfl, ?_⟩) hS ?_
      rotate_left
      · intro w' hS'; (first | (go_simp; done) | (go_simp; with_reducible rfl) | with_reducible rfl)
      (try simp only [Act.put, List.setIfInBounds_toArray, List.set_cons_zero, List.set_cons_succ])
      refine wpAnyH_take (i := 18) (oi := ⟨_, _, _, _, _, _⟩) (v := ?_) rfl (by kernel_rfl) (by kernel_rfl) (by kernel_rfl) (fun _ _ _ h => h) (Or.inl ⟨by rfl, ?_⟩) hS ?_
      rotate_left
      · intro w' hS'; (first | (go_simp; done) | (go_simp; with_reducible rfl) | with_reducible rfl)
      (try simp only [Act.put, List.setIfInBounds_toArray, List.set_cons_zero, List.set_cons_succ])
      refine wpAnyH_take (i := 19) (oi := ⟨_, _, _, _, _, _⟩) (v := ?_) rfl (by kernel_rfl) (by kernel_rfl) (by kernel_rfl) (fun _ _ _ h => h) (Or.inl ⟨by rfl, ?_⟩) hS ?_
      rotate_left
      · intro w' hS'; have p' := pa.call hS'; have c0 := p'.cell0; have c1 := p'.cell1; (first | (go_simp; done) | (go_simp; with_reducible rfl) | with_reducible rfl)
      (try simp only [Act.put, List.setIfInBounds_toArray, List.set_cons_zero, List.set_cons_succ])
      refine wpAnyH_take (i := 21) (oi := ⟨_, _, _, _, _, _⟩) (v := ?_) rfl (by kernel_rfl) (by kernel_rfl) (by kernel_rfl) (fun _ _ _ h => h) (Or.inl ⟨by rfl, ?_⟩) hS ?_
      rotate_left
      · intro w' hS'; have p' := pa.call hS'; have c0 := p'.cell0; have c1 := p'.cell1; (first | (go_simp; done) | (go_simp; with_reducible rfl) | with_reducible rfl)
      (try simp only [Act.put, List.setIfInBounds_toArray, List.set_cons_zero, List.set_cons_succ])
      refine wpAnyH_ready (rs := [20]) (by kernel_rfl) (by simp) ?_
      refine AllReadyH.cons (o := ⟨_, _, _, _, _, _⟩) rfl (fun K hK => ?_) AllReadyH.nil
      go_simp
      refine (bitLen_any _ (ha.call hS) (by omega)).mono ?_
      rintro e u3 ⟨rfl, d3⟩
      replace hS := bthen hS d3
      first | (with_reducible refine hK.out _ _ hS (fun _ => ?_)) | (go_wp2_with fail; with_reducible refine hK.out _ _ hS (fun _ => ?_))
      clear hK K
      (try simp only [Act.put, List.setIfInBounds_toArray, List.set_cons_zero, List.set_cons_succ])
      refine wpAnyH_ready (rs := [22]) (by kernel_rfl) (by simp) ?_
      refine AllReadyH.cons (o := ⟨_, _, _, _, _, _⟩) rfl (fun K hK => ?_) AllReadyH.nil
      go_simp
      refine (refBitLenI_any _ (ha.call hS) (by omega)).mono ?_
      rintro e u4 ⟨rfl, d4⟩
      replace hS := bthen hS d4
      first | (with_reducible refine hK.out _ _ hS (fun _ => ?_)) | (go_wp2_with fail; with_reducible refine hK.out _ _ hS (fun _ => ?_))
      clear hK K
      (try simp only [Act.put, List.setIfInBounds_toArray, List.set_cons_zero, List.set_cons_succ])
      refine wpAnyH_take (i := 23) (oi := ⟨_, _, _, _, _, _⟩) (v := ?_) rfl (by kernel_rfl) (by kernel_rfl) (by kernel_rfl) (fun _ _ _ h => h) (Or.inl ⟨by rfl, ?_⟩) hS ?_
      rotate_left
      · intro w' hS'; (first | (go_simp; done) | (go_simp; with_reducible rfl) | with_reducible rfl)
      (try simp only [Act.put, List.setIfInBounds_toArray, List.set_cons_zero, List.set_cons_succ])
      refine wpAnyH_take (i := 24) (oi := ⟨_, _, _, _, _, _⟩) (v := ?_) rfl (by kernel_rfl) (by kernel_rfl) (by kernel_rfl) (fun _ _ _ h => h) (Or.inl ⟨by rfl, ?_⟩) hS ?_
      rotate_left
      · intro w' hS'; (first | (go_simp; done) | (go_simp; with_reducible rfl) | with_reducible rfl)
      (try simp only [Act.put, List.setIfInBounds_toArray, List.set_cons_zero, List.set_cons_succ])
      refine wpAnyH_take (i := 25) (oi := ⟨_, _, _, _, _, _⟩) (v := ?_) rfl (by kernel_rfl) (by kernel_rfl) (by kernel_rfl) (fun _ _ _ h => h) (Or.inl ⟨by rfl, ?_⟩) hS ?_
      rotate_left
      · intro w' hS'; (first | (go_simp; done) | (go_simp; with_reducible rfl) | with_reducible rfl)
      (try simp only [Act.put, List.setIfInBounds_toArray, List.set_cons_zero, List.set_cons_succ])
      refine wpAnyH_ready (rs := [26]) (by kernel_rfl) (by simp) ?_
      refine AllReadyH.cons (o := ⟨_, _, _, _, _, _⟩) rfl (fun K hK => ?_) AllReadyH.nil
      go_simp
      refine (awake_any _ (ht.call hS)).mono ?_
      rintro e u5 ⟨rfl, d5⟩
      replace hS := bthen hS d5
      first | (with_reducible refine hK.out _ _ hS (fun _ => ?_)) | (go_wp2_with fail; with_reducible refine hK.out _ _ hS (fun _ => ?_))
      clear hK K
      (try simp only [Act.put, List.setIfInBounds_toArray, List.set_cons_zero, List.set_cons_succ])
      refine wpAnyH_take (i := 27) (oi := ⟨_, _, _, _, _, _⟩) (v := ?_) rfl (by kernel_rfl) (by kernel_rfl) (by kernel_rfl) (fun _ _ _ h => h) (Or.inl ⟨by rfl, ?_⟩) hS ?_
      rotate_left
      · intro w' hS'; (first | (go_simp; done) | (go_simp; with_reducible rfl) | with_reducible rfl)
      (try simp only [Act.put, List.setIfInBounds_toArray, List.set_cons_zero, List.set_cons_succ])
      refine wpAnyH_take (i := 28) (oi := ⟨_, _, _, _, _, _⟩) (v := ?_) rfl (by kernel_rfl) (by kernel_rfl) (by kernel_rfl) (fun _ _ _ h => h) (Or.inl ⟨by rfl, ?_⟩) hS ?_
      rotate_left
      · intro w' hS'; (first | (go_simp; done) | (go_simp; with_reducible rfl) | with_reducible rfl)
      (try simp only [Act.put, List.setIfInBounds_toArray, List.set_cons_zero, List.set_cons_succ])
      refine wpAnyH_done (by kernel_rfl) ?_ _
      go_wp2
      go_ret
      exact ⟨rfl, bthen bW hS⟩
end Go.Proofs.YteicjbinginamaaDoor
