/- Walks of Negate, Abs, Add, Sub, Mul, Compare, Sign of the reference. -/
import Derived.Test.YtociocengfjioaaGreatDoorRefC
import Derived.Test.YtociocengfjioaaGreatDoorLawKit
namespace Go.Proofs.YtociocengfjioaaGreatDoor
open Go.RowKit
set_option linter.unusedVariables false

set_option maxRecDepth 100000 in
theorem refNegate_any {s : Bool} {A : Option Addr} {n c : Nat} {x : Int} (w : World) (ha : AInt w s A n c x) (hn : n ≤ 1099511627776) :
    Calls Tryz.prog 49 #[.agg #[.bool s, .slice A n c]] w (RetInt w (-x)) := by
  obtain ⟨ds, h1, h2, h3, h4, rfl⟩ := ha
  obtain ⟨W, hW, bW, pa, pr⟩ := boxes1 w s A n c
  have hz : sgn (!s) (val ds) = -sgn s (val ds) := by unfold sgn; cases s <;> simp
  have HM := Lib.hid (make_any (!s) W (h1.call bW) (Nat.le_refl _) h2 h3 h4 hn)
  rw [hz] at HM
  have a0 := pa.cell0
  have a1 := pa.cell1
  clear hz
  generalize -sgn s (val ds) = z at *
  go_enter Tryz.func49, Tryz.ntmps49
  go_wp2_with fail
  rw [← hW]
  clear hW
  refine HM.out.mono ?_
  rintro e w2 ⟨neg, A2, n2, c2, rfl, ci, d2⟩
  have p2 := pr.call d2
  obtain ⟨q0, q1, f0, f1, k0, k1⟩ := p2.all (.bool neg) (.slice A2 n2 c2)
  go_wp2
  ((try simp only [Exit.inBlock, Exit.then]); refine bodyPost_ret (by simp [results, Tryz.results49, go_sem, k0, k1]; try rfl) rfl ?_)
  exact RetInt.stored ci p2 (bthen bW d2) (by omega)

set_option maxRecDepth 100000 in
theorem refAbs_any {s : Bool} {A : Option Addr} {n c : Nat} {x : Int} (w : World) (ha : AInt w s A n c x) (hn : n ≤ 1099511627776) :
    Calls Tryz.prog 51 #[.agg #[.bool s, .slice A n c]] w (RetInt w (x.natAbs : Int)) := by
  obtain ⟨ds, h1, h2, h3, h4, rfl⟩ := ha
  obtain ⟨W, hW, bW, pa, pr⟩ := boxes1 w s A n c
  have HM := Lib.hid (make_any false W (h1.call bW) (Nat.le_refl _) h2 h3 h4 hn)
  rw [sgn_natAbs, ← sgn_f]
  have a0 := pa.cell0
  have a1 := pa.cell1
  generalize sgn false (val ds) = z at *
  go_enter Tryz.func51, Tryz.ntmps51
  go_wp2_with fail
  rw [← hW]
  clear hW
  refine HM.out.mono ?_
  rintro e w2 ⟨neg, A2, n2, c2, rfl, ci, d2⟩
  have p2 := pr.call d2
  obtain ⟨q0, q1, f0, f1, k0, k1⟩ := p2.all (.bool neg) (.slice A2 n2 c2)
  go_wp2
  ((try simp only [Exit.inBlock, Exit.then]); refine bodyPost_ret (by simp [results, Tryz.results51, go_sem, k0, k1]; try rfl) rfl ?_)
  exact RetInt.stored ci p2 (bthen bW d2) (by omega)

set_option maxRecDepth 100000 in
theorem refMul_any {s t : Bool} {A A' : Option Addr} {n n' c c' : Nat} {x y : Int} (w : World) (ha : AInt w s A n c x) (hb : AInt w t A' n' c' y) (hn : n ≤ 274877906944) (hn' : n' ≤ 274877906944) :
    Calls Tryz.prog 43 #[.agg #[.bool s, .slice A n c], .agg #[.bool t, .slice A' n' c']] w (RetInt w (x * y)) := by
  obtain ⟨ds, h1, h2, h3, h4, rfl⟩ := ha
  obtain ⟨ds', h1', h2', h3', h4', rfl⟩ := hb
  have hz : sgn s (val ds) * sgn t (val ds') = sgn (!(s == t)) (val ds * val ds') := by
    unfold sgn; cases s <;> cases t <;> simp [Int.neg_mul, Int.mul_neg]
  rw [hz]
  clear hz
  have hlen : (digits (val ds * val ds')).length ≤ n + n' := by
    apply digits_len_le
    rw [Nat.pow_add]
    have e1 := val_lt h2
    have e2 := val_lt h2'
    rw [h1.len] at e1
    rw [h1'.len] at e2
    exact Nat.mul_lt_mul'' e1 e2
  have HM := Lib.hid (fun W h h' => mulDigits_any (c := c) (c' := c') (A := A) (A' := A') (n := n) (n' := n') (xs := ds) (ys := ds') W h h' h2 h2' (by omega) (by omega))
  obtain ⟨W, hW, hS, pa, pb, pr⟩ := boxes2 w s t A A' n n' c c'
  have hr := h1.call hS
  have hr' := h1'.call hS
  generalize val ds * val ds' = v at *
  go_enter Tryz.func43, Tryz.ntmps43
  go_wp2_with fail
  rw [← hW]
  clear hW
  have d0 := bdrew W
  (replace hr := hr.call d0); (replace hr' := hr'.call d0); (replace pa := pa.call d0); (replace pb := pb.call d0); (replace pr := pr.call d0)
  replace hS := bthen hS d0
  clear d0
  refine wp_region_held_drew (S := fun w' => Below w.heap.size w w' ∧ Pr w' (w.heap.size) s A n c ∧ Pr w' (w.heap.size + 1) t A' n' c') (by kernel_rfl) ⟨hS, pa, pb⟩ (fun _ => ?_)
  generalize W.drew = u0 at *
  refine wpAnyH_take (i := 0) (oi := ⟨_, _, _, _, _, _⟩) (v := ?_) rfl (by kernel_rfl) (by kernel_rfl) (by kernel_rfl) (fun _ _ _ h => h) (Or.inl ⟨by rfl, ?_⟩) ⟨hS, pa, pb⟩ ?_
  rotate_left
  · intro w' hS'; (first | (go_simp; done) | (go_simp; with_reducible rfl) | with_reducible rfl)
  (try simp only [Act.put, List.setIfInBounds_toArray, List.set_cons_zero, List.set_cons_succ])
  refine wpAnyH_take (i := 1) (oi := ⟨_, _, _, _, _, _⟩) (v := ?_) rfl (by kernel_rfl) (by kernel_rfl) (by kernel_rfl) (fun _ _ _ h => h) (Or.inl ⟨by rfl, ?_⟩) ⟨hS, pa, pb⟩ ?_
  rotate_left
  · intro w' hS'; obtain ⟨_, q_pa, q_pb⟩ := hS'; have c0 := q_pa.cell0; have c1 := q_pa.cell1; (first | (go_simp; done) | (go_simp; with_reducible rfl) | with_reducible rfl)
  (try simp only [Act.put, List.setIfInBounds_toArray, List.set_cons_zero, List.set_cons_succ])
  refine wpAnyH_take (i := 2) (oi := ⟨_, _, _, _, _, _⟩) (v := ?_) rfl (by kernel_rfl) (by kernel_rfl) (by kernel_rfl) (fun _ _ _ h => h) (Or.inl ⟨by rfl, ?_⟩) ⟨hS, pa, pb⟩ ?_
  rotate_left
  · intro w' hS'; (first | (go_simp; done) | (go_simp; with_reducible rfl) | with_reducible rfl)
  (try simp only [Act.put, List.setIfInBounds_toArray, List.set_cons_zero, List.set_cons_succ])
  refine wpAnyH_take (i := 3) (oi := ⟨_, _, _, _, _, _⟩) (v := ?_) rfl (by kernel_rfl) (by kernel_rfl) (by kernel_rfl) (fun _ _ _ h => h) (Or.inl ⟨by rfl, ?_⟩) ⟨hS, pa, pb⟩ ?_
  rotate_left
  · intro w' hS'; obtain ⟨_, q_pa, q_pb⟩ := hS'; have c0 := q_pb.cell0; have c1 := q_pb.cell1; (first | (go_simp; done) | (go_simp; with_reducible rfl) | with_reducible rfl)
  (try simp only [Act.put, List.setIfInBounds_toArray, List.set_cons_zero, List.set_cons_succ])
  refine wpAnyH_take (i := 4) (oi := ⟨_, _, _, _, _, _⟩) (v := ?_) rfl (by kernel_rfl) (by kernel_rfl) (by kernel_rfl) (fun _ _ _ h => h) (Or.inl ⟨by rfl, ?_⟩) ⟨hS, pa, pb⟩ ?_
  rotate_left
  · intro w' hS'; (first | (go_simp; done) | (go_simp; with_reducible rfl) | with_reducible rfl)
  (try simp only [Act.put, List.setIfInBounds_toArray, List.set_cons_zero, List.set_cons_succ])
  refine wpAnyH_take (i := 5) (oi := ⟨_, _, _, _, _, _⟩) (v := ?_) rfl (by kernel_rfl) (by kernel_rfl) (by kernel_rfl) (fun _ _ _ h => h) (Or.inl ⟨by rfl, ?_⟩) ⟨hS, pa, pb⟩ ?_
  rotate_left
  · intro w' hS'; (first | (go_simp; done) | (go_simp; with_reducible rfl) | with_reducible rfl)
  (try simp only [Act.put, List.setIfInBounds_toArray, List.set_cons_zero, List.set_cons_succ])
  refine wpAnyH_take (i := 6) (oi := ⟨_, _, _, _, _, _⟩) (v := ?_) rfl (by kernel_rfl) (by kernel_rfl) (by kernel_rfl) (fun _ _ _ h => h) (Or.inl ⟨by rfl, ?_⟩) ⟨hS, pa, pb⟩ ?_
  rotate_left
  · intro w' hS'; obtain ⟨_, q_pa, q_pb⟩ := hS'; have c0 := q_pa.cell0; have c1 := q_pa.cell1; (first | (go_simp; done) | (go_simp; with_reducible rfl) | with_reducible rfl)
  (try simp only [Act.put, List.setIfInBounds_toArray, List.set_cons_zero, List.set_cons_succ])
  refine wpAnyH_take (i := 7) (oi := ⟨_, _, _, _, _, _⟩) (v := ?_) rfl (by kernel_rfl) (by kernel_rfl) (by kernel_rfl) (fun _ _ _ h => h) (Or.inl ⟨by rfl, ?_⟩) ⟨hS, pa, pb⟩ ?_
  rotate_left
  · intro w' hS'; (first | (go_simp; done) | (go_simp; with_reducible rfl) | with_reducible rfl)
  (try simp only [Act.put, List.setIfInBounds_toArray, List.set_cons_zero, List.set_cons_succ])
  refine wpAnyH_take (i := 8) (oi := ⟨_, _, _, _, _, _⟩) (v := ?_) rfl (by kernel_rfl) (by kernel_rfl) (by kernel_rfl) (fun _ _ _ h => h) (Or.inl ⟨by rfl, ?_⟩) ⟨hS, pa, pb⟩ ?_
  rotate_left
  · intro w' hS'; obtain ⟨_, q_pa, q_pb⟩ := hS'; have c0 := q_pb.cell0; have c1 := q_pb.cell1; (first | (go_simp; done) | (go_simp; with_reducible rfl) | with_reducible rfl)
  (try simp only [Act.put, List.setIfInBounds_toArray, List.set_cons_zero, List.set_cons_succ])
  refine wpAnyH_ready (rs := [9]) (by kernel_rfl) (by simp) ?_
  refine AllReadyH.cons (o := ⟨_, _, _, _, _, _⟩) rfl (fun K hK => ?_) AllReadyH.nil
  go_simp
  refine (HM.out _ hr hr').mono ?_
  rintro e u1 ⟨B1, m1, e1, rfl, r1, x1, x1', d1⟩
  replace hS := bthen hS d1
  (replace hr := hr.call d1); (replace hr' := hr'.call d1); (replace pa := pa.call d1); (replace pb := pb.call d1); (replace pr := pr.call d1)
  first | (with_reducible refine hK.out _ _ ⟨hS, pa, pb⟩ (fun _ => ?_)) | (go_wp2_with fail; with_reducible refine hK.out _ _ ⟨hS, pa, pb⟩ (fun _ => ?_))
  clear hK K
  have y1 : m1 ≤ n + n' := by rw [← r1.len]; exact hlen
  (try simp only [Act.put, List.setIfInBounds_toArray, List.set_cons_zero, List.set_cons_succ])
  refine wpAnyH_ready (rs := [10]) (by kernel_rfl) (by simp) ?_
  refine AllReadyH.cons (o := ⟨_, _, _, _, _, _⟩) rfl (fun K hK => ?_) AllReadyH.nil
  go_simp
  refine (make_mag (!(s == t)) _ r1 x1 x1' (by omega)).mono ?_
  rintro e u2 ⟨t2, B2, m2, e2, rfl, j2, d2⟩
  replace hS := bthen hS d2
  (replace hr := hr.call d2); (replace hr' := hr'.call d2); (replace pa := pa.call d2); (replace pb := pb.call d2); (replace pr := pr.call d2); (replace r1 := r1.call d2)
  first | (with_reducible refine hK.out _ _ ⟨hS, pa, pb⟩ (fun _ => ?_)) | (go_wp2_with fail; with_reducible refine hK.out _ _ ⟨hS, pa, pb⟩ (fun _ => ?_))
  clear hK K
  (try simp only [Act.put, List.setIfInBounds_toArray, List.set_cons_zero, List.set_cons_succ])
  refine wpAnyH_ready (rs := [11]) (by kernel_rfl) (by simp) ?_
  refine AllReadyH.cons (o := ⟨_, _, _, _, _, _⟩) rfl (fun K hK => ?_) AllReadyH.nil
  obtain ⟨q0, q1, f0, f1, k0, k1⟩ := pr.all (.bool t2) (.slice B2 m2 e2)
  have hSb := hS
  go_simp
  replace hS := below_stored hS (g := w.heap.size + 1 + 1) (by omega) (.bool t2) (.slice B2 m2 e2)
  refine hK.out _ _ ⟨hS, (pa.far (by omega) _ _), (pb.far (by omega) _ _)⟩ (fun _ => ?_)
  clear hK K
  (try simp only [Act.put, List.setIfInBounds_toArray, List.set_cons_zero, List.set_cons_succ])
  refine wpAnyH_done (by kernel_rfl) ?_ _
  go_wp2
  ((try simp only [Exit.inBlock, Exit.then]); refine bodyPost_ret (by simp [results, Tryz.results43, go_sem, k0, k1]; try rfl) rfl ?_)
  exact RetInt.stored j2 pr hSb (by omega)

theorem len_of_rd {w : World} {B n v : Nat} {A : Option Addr} {ds : List Nat} (h : Rd .u32 w B A n ds) (hw : W32 ds) (hv : v ≤ val ds) : (digits v).length ≤ n := by
  apply digits_len_le
  have := val_lt hw
  rw [h.len] at this
  omega

set_option maxHeartbeats 1000000 in
set_option maxRecDepth 100000 in
theorem refAdd_any {s t : Bool} {A A' : Option Addr} {n n' c c' : Nat} {x y : Int} (w : World) (ha : AInt w s A n c x) (hb : AInt w t A' n' c' y) (hn : n ≤ 274877906944) (hn' : n' ≤ 274877906944) :
    Calls Tryz.prog 53 #[.agg #[.bool s, .slice A n c], .agg #[.bool t, .slice A' n' c']] w (RetInt w (x + y)) := by
  obtain ⟨ds, h1, h2, h3, h4, rfl⟩ := ha
  obtain ⟨ds', h1', h2', h3', h4', rfl⟩ := hb
  obtain ⟨W, hW, hS, pa, pb, pr⟩ := boxes2 w s t A A' n n' c c'
  have hr := h1.call hS
  have hr' := h1'.call hS
  obtain ⟨a0, a1, b0, b1⟩ := pa.cells pb
  by_cases hst : s = t
  · subst hst
    have hz : sgn s (val ds) + sgn s (val ds') = sgn s (val ds + val ds') := by unfold sgn; cases s <;> simp <;> omega
    rw [hz]
    clear hz
    have hlen : (digits (val ds + val ds')).length ≤ n + n' + 1 := by
      apply digits_len_le
      have e1 := val_lt h2
      have e2 := val_lt h2'
      rw [h1.len] at e1
      rw [h1'.len] at e2
      have e3 : 4294967296 ^ n ≤ 4294967296 ^ (n + n') := Nat.pow_le_pow_right (by omega) (by omega)
      have e4 : 4294967296 ^ n' ≤ 4294967296 ^ (n + n') := Nat.pow_le_pow_right (by omega) (by omega)
      rw [Nat.pow_succ]
      omega
    have HM := Lib.hid (fun W h h' => addDigits_any (c := c) (c' := c') (A := A) (A' := A') (n := n) (n' := n') (xs := ds) (ys := ds') W h h' h2 h2' (by omega) (by omega))
    generalize val ds + val ds' = v at *
    go_enter Tryz.func53, Tryz.ntmps53
    go_wp2_with fail
    rw [← hW]
    clear hW
    go_wp2_with fail
    clear a0 a1 b0 b1
    have d0 := bdrew W
    (replace hr := hr.call d0); (replace hr' := hr'.call d0); (replace pa := pa.call d0); (replace pb := pb.call d0); (replace pr := pr.call d0)
    replace hS := bthen hS d0
    clear d0
    refine wp_region_held_drew (S := fun w' => Below w.heap.size w w' ∧ Pr w' (w.heap.size) s A n c ∧ Pr w' (w.heap.size + 1) s A' n' c') (by kernel_rfl) ⟨hS, pa, pb⟩ (fun _ => ?_)
    generalize W.drew = u0 at *
    refine wpAnyH_take (i := 0) (oi := ⟨_, _, _, _, _, _⟩) (v := ?_) rfl (by kernel_rfl) (by kernel_rfl) (by kernel_rfl) (fun _ _ _ h => h) (Or.inl ⟨by rfl, ?_⟩) ⟨hS, pa, pb⟩ ?_
    rotate_left
    · intro w' hS'; (first | (go_simp; done) | (go_simp; with_reducible rfl) | with_reducible rfl)
    (try simp only [Act.put, List.setIfInBounds_toArray, List.set_cons_zero, List.set_cons_succ])
    refine wpAnyH_take (i := 1) (oi := ⟨_, _, _, _, _, _⟩) (v := ?_) rfl (by kernel_rfl) (by kernel_rfl) (by kernel_rfl) (fun _ _ _ h => h) (Or.inl ⟨by rfl, ?_⟩) ⟨hS, pa, pb⟩ ?_
    rotate_left
    · intro w' hS'; obtain ⟨_, q_pa, q_pb⟩ := hS'; have c0 := q_pa.cell0; have c1 := q_pa.cell1; (first | (go_simp; done) | (go_simp; with_reducible rfl) | with_reducible rfl)
    (try simp only [Act.put, List.setIfInBounds_toArray, List.set_cons_zero, List.set_cons_succ])
    refine wpAnyH_take (i := 2) (oi := ⟨_, _, _, _, _, _⟩) (v := ?_) rfl (by kernel_rfl) (by kernel_rfl) (by kernel_rfl) (fun _ _ _ h => h) (Or.inl ⟨by rfl, ?_⟩) ⟨hS, pa, pb⟩ ?_
    rotate_left
    · intro w' hS'; (first | (go_simp; done) | (go_simp; with_reducible rfl) | with_reducible rfl)
    (try simp only [Act.put, List.setIfInBounds_toArray, List.set_cons_zero, List.set_cons_succ])
    refine wpAnyH_take (i := 3) (oi := ⟨_, _, _, _, _, _⟩) (v := ?_) rfl (by kernel_rfl) (by kernel_rfl) (by kernel_rfl) (fun _ _ _ h => h) (Or.inl ⟨by rfl, ?_⟩) ⟨hS, pa, pb⟩ ?_
    rotate_left
    · intro w' hS'; obtain ⟨_, q_pa, q_pb⟩ := hS'; have c0 := q_pa.cell0; have c1 := q_pa.cell1; (first | (go_simp; done) | (go_simp; with_reducible rfl) | with_reducible rfl)
    (try simp only [Act.put, List.setIfInBounds_toArray, List.set_cons_zero, List.set_cons_succ])
    refine wpAnyH_take (i := 4) (oi := ⟨_, _, _, _, _, _⟩) (v := ?_) rfl (by kernel_rfl) (by kernel_rfl) (by kernel_rfl) (fun _ _ _ h => h) (Or.inl ⟨by rfl, ?_⟩) ⟨hS, pa, pb⟩ ?_
    rotate_left
    · intro w' hS'; (first | (go_simp; done) | (go_simp; with_reducible rfl) | with_reducible rfl)
    (try simp only [Act.put, List.setIfInBounds_toArray, List.set_cons_zero, List.set_cons_succ])
    refine wpAnyH_take (i := 5) (oi := ⟨_, _, _, _, _, _⟩) (v := ?_) rfl (by kernel_rfl) (by kernel_rfl) (by kernel_rfl) (fun _ _ _ h => h) (Or.inl ⟨by rfl, ?_⟩) ⟨hS, pa, pb⟩ ?_
    rotate_left
    · intro w' hS'; obtain ⟨_, q_pa, q_pb⟩ := hS'; have c0 := q_pb.cell0; have c1 := q_pb.cell1; (first | (go_simp; done) | (go_simp; with_reducible rfl) | with_reducible rfl)
    (try simp only [Act.put, List.setIfInBounds_toArray, List.set_cons_zero, List.set_cons_succ])
    refine wpAnyH_ready (rs := [6]) (by kernel_rfl) (by simp) ?_
    refine AllReadyH.cons (o := ⟨_, _, _, _, _, _⟩) rfl (fun K hK => ?_) AllReadyH.nil
    go_simp
    refine (HM.out _ hr hr').mono ?_
    rintro e u1 ⟨B1, m1, e1, rfl, r1, x1, x1', d1⟩
    replace hS := bthen hS d1
    (replace hr := hr.call d1); (replace hr' := hr'.call d1); (replace pa := pa.call d1); (replace pb := pb.call d1); (replace pr := pr.call d1)
    first | (with_reducible refine hK.out _ _ ⟨hS, pa, pb⟩ (fun _ => ?_)) | (go_wp2_with fail; with_reducible refine hK.out _ _ ⟨hS, pa, pb⟩ (fun _ => ?_))
    clear hK K
    have y1 : m1 ≤ n + n' + 1 := by rw [← r1.len]; exact hlen
    (try simp only [Act.put, List.setIfInBounds_toArray, List.set_cons_zero, List.set_cons_succ])
    refine wpAnyH_ready (rs := [7]) (by kernel_rfl) (by simp) ?_
    refine AllReadyH.cons (o := ⟨_, _, _, _, _, _⟩) rfl (fun K hK => ?_) AllReadyH.nil
    go_simp
    refine (make_mag s _ r1 x1 x1' (by omega)).mono ?_
    rintro e u2 ⟨t2, B2, m2, e2, rfl, j2, d2⟩
    replace hS := bthen hS d2
    (replace hr := hr.call d2); (replace hr' := hr'.call d2); (replace pa := pa.call d2); (replace pb := pb.call d2); (replace pr := pr.call d2); (replace r1 := r1.call d2)
    first | (with_reducible refine hK.out _ _ ⟨hS, pa, pb⟩ (fun _ => ?_)) | (go_wp2_with fail; with_reducible refine hK.out _ _ ⟨hS, pa, pb⟩ (fun _ => ?_))
    clear hK K
    (try simp only [Act.put, List.setIfInBounds_toArray, List.set_cons_zero, List.set_cons_succ])
    refine wpAnyH_ready (rs := [8]) (by kernel_rfl) (by simp) ?_
    refine AllReadyH.cons (o := ⟨_, _, _, _, _, _⟩) rfl (fun K hK => ?_) AllReadyH.nil
    obtain ⟨q0, q1, f0, f1, k0, k1⟩ := pr.all (.bool t2) (.slice B2 m2 e2)
    have hSb := hS
    go_simp
    replace hS := below_stored hS (g := w.heap.size + 1 + 1) (by omega) (.bool t2) (.slice B2 m2 e2)
    refine hK.out _ _ ⟨hS, (pa.far (by omega) _ _), (pb.far (by omega) _ _)⟩ (fun _ => ?_)
    clear hK K
    (try simp only [Act.put, List.setIfInBounds_toArray, List.set_cons_zero, List.set_cons_succ])
    refine wpAnyH_done (by kernel_rfl) ?_ _
    go_wp2
    ((try simp only [Exit.inBlock, Exit.then]); refine bodyPost_ret (by simp [results, Tryz.results53, go_sem, k0, k1]; try rfl) rfl ?_)
    exact RetInt.stored j2 pr hSb (by omega)
  · have hsf : (s == t) = false := by simp; exact hst
    have HC := Lib.hid (compareDigits_any W hr hr' h2 h2' h3 h4 h3' h4')
    by_cases hab : val ds' ≤ val ds
    · have hz : sgn s (val ds) + sgn t (val ds') = sgn s (val ds - val ds') := by unfold sgn; cases s <;> cases t <;> simp at hst <;> simp <;> omega
      have hge : 0 ≤ cmp3 (val ds) (val ds') := cmp3_ge hab
      rw [hz]
      clear hz
      have hlb := len_of_rd h1 h2 hab
      have hlen : (digits (val ds - val ds')).length ≤ n := len_of_rd h1 h2 (by omega)
      have HT := Lib.hid (fun W h => refTrim_mag (c := c') (A := A') (n := n') (xs := ds') (B := W.heap.size) W h h2' h3' h4')
      have HM := Lib.hid (fun W m' h h' hm => subDigits_any (c := c) (c' := c') (A := A) (A' := A') (n := n) (n' := m') (xs := ds) (ys := digits (val ds')) W h h' h2 (digits_w32 _) (by omega) hm (by rw [val_digits]; exact hab))
      rw [val_digits] at HM
      generalize cmp3 (val ds) (val ds') = cp at *
      have hcd : decide (0 ≤ cp) = true := by simp; omega
      have hcd' : decide (cp ≥ 0) = true := by simp; omega
      clear hge hab
      generalize val ds - val ds' = v at *
      generalize val ds' = v' at *
      go_enter Tryz.func53, Tryz.ntmps53
      go_wp2_with fail
      rw [← hW]
      clear hW
      go_wp2_with fail
      refine HC.out.mono ?_
      rintro e w1 ⟨rfl, hq1⟩
      have b2 := qbelow hq1
      clear hq1 HC
      (replace pa := pa.call b2); (replace pb := pb.call b2); (replace pr := pr.call b2); (replace hr := hr.call b2); (replace hr' := hr'.call b2)
      replace hS := bthen hS b2
      clear a0 a1 b0 b1 b2
      go_wp2_with fail
      have d0 := bdrew w1
      (replace hr := hr.call d0); (replace hr' := hr'.call d0); (replace pa := pa.call d0); (replace pb := pb.call d0); (replace pr := pr.call d0)
      replace hS := bthen hS d0
      clear d0
      refine wp_region_held_drew (S := fun w' => Below w.heap.size w w' ∧ Pr w' (w.heap.size) s A n c ∧ Pr w' (w.heap.size + 1) t A' n' c') (by kernel_rfl) ⟨hS, pa, pb⟩ (fun _ => ?_)
      generalize w1.drew = u0 at *
      refine wpAnyH_take (i := 0) (oi := ⟨_, _, _, _, _, _⟩) (v := ?_) rfl (by kernel_rfl) (by kernel_rfl) (by kernel_rfl) (fun _ _ _ h => h) (Or.inl ⟨by rfl, ?_⟩) ⟨hS, pa, pb⟩ ?_
      rotate_left
      · intro w' hS'; (first | (go_simp; done) | (go_simp; with_reducible rfl) | with_reducible rfl)
      (try simp only [Act.put, List.setIfInBounds_toArray, List.set_cons_zero, List.set_cons_succ])
      refine wpAnyH_take (i := 1) (oi := ⟨_, _, _, _, _, _⟩) (v := ?_) rfl (by kernel_rfl) (by kernel_rfl) (by kernel_rfl) (fun _ _ _ h => h) (Or.inl ⟨by rfl, ?_⟩) ⟨hS, pa, pb⟩ ?_
      rotate_left
      · intro w' hS'; obtain ⟨_, q_pa, q_pb⟩ := hS'; have c0 := q_pa.cell0; have c1 := q_pa.cell1; (first | (go_simp; done) | (go_simp; with_reducible rfl) | with_reducible rfl)
      (try simp only [Act.put, List.setIfInBounds_toArray, List.set_cons_zero, List.set_cons_succ])
      refine wpAnyH_take (i := 2) (oi := ⟨_, _, _, _, _, _⟩) (v := ?_) rfl (by kernel_rfl) (by kernel_rfl) (by kernel_rfl) (fun _ _ _ h => h) (Or.inl ⟨by rfl, ?_⟩) ⟨hS, pa, pb⟩ ?_
      rotate_left
      · intro w' hS'; (first | (go_simp; done) | (go_simp; with_reducible rfl) | with_reducible rfl)
      (try simp only [Act.put, List.setIfInBounds_toArray, List.set_cons_zero, List.set_cons_succ])
      refine wpAnyH_take (i := 3) (oi := ⟨_, _, _, _, _, _⟩) (v := ?_) rfl (by kernel_rfl) (by kernel_rfl) (by kernel_rfl) (fun _ _ _ h => h) (Or.inl ⟨by rfl, ?_⟩) ⟨hS, pa, pb⟩ ?_
      rotate_left
      · intro w' hS'; obtain ⟨_, q_pa, q_pb⟩ := hS'; have c0 := q_pa.cell0; have c1 := q_pa.cell1; (first | (go_simp; done) | (go_simp; with_reducible rfl) | with_reducible rfl)
      (try simp only [Act.put, List.setIfInBounds_toArray, List.set_cons_zero, List.set_cons_succ])
      refine wpAnyH_take (i := 4) (oi := ⟨_, _, _, _, _, _⟩) (v := ?_) rfl (by kernel_rfl) (by kernel_rfl) (by kernel_rfl) (fun _ _ _ h => h) (Or.inl ⟨by rfl, ?_⟩) ⟨hS, pa, pb⟩ ?_
      rotate_left
      · intro w' hS'; (first | (go_simp; done) | (go_simp; with_reducible rfl) | with_reducible rfl)
      (try simp only [Act.put, List.setIfInBounds_toArray, List.set_cons_zero, List.set_cons_succ])
      refine wpAnyH_take (i := 5) (oi := ⟨_, _, _, _, _, _⟩) (v := ?_) rfl (by kernel_rfl) (by kernel_rfl) (by kernel_rfl) (fun _ _ _ h => h) (Or.inl ⟨by rfl, ?_⟩) ⟨hS, pa, pb⟩ ?_
      rotate_left
      · intro w' hS'; obtain ⟨_, q_pa, q_pb⟩ := hS'; have c0 := q_pb.cell0; have c1 := q_pb.cell1; (first | (go_simp; done) | (go_simp; with_reducible rfl) | with_reducible rfl)
      (try simp only [Act.put, List.setIfInBounds_toArray, List.set_cons_zero, List.set_cons_succ])
      refine wpAnyH_ready (rs := [6]) (by kernel_rfl) (by simp) ?_
      refine AllReadyH.cons (o := ⟨_, _, _, _, _, _⟩) rfl (fun K hK => ?_) AllReadyH.nil
      go_simp
      refine (HT.out _ hr').mono ?_
      rintro e u1 ⟨m0, rfl, r0, z0, rfl⟩
      first | (with_reducible refine hK.out _ _ ⟨hS, pa, pb⟩ (fun _ => ?_)) | (go_wp2_with fail; with_reducible refine hK.out _ _ ⟨hS, pa, pb⟩ (fun _ => ?_))
      clear hK K
      have y0 : m0 ≤ n := by rw [← r0.len]; exact hlb
      (try simp only [Act.put, List.setIfInBounds_toArray, List.set_cons_zero, List.set_cons_succ])
      refine wpAnyH_ready (rs := [7]) (by kernel_rfl) (by simp) ?_
      refine AllReadyH.cons (o := ⟨_, _, _, _, _, _⟩) rfl (fun K hK => ?_) AllReadyH.nil
      go_simp
      refine (HM.out _ _ hr r0 y0).mono ?_
      rintro e u2 ⟨B1, m1, e1, rfl, r1, x1, x1', d2⟩
      replace hS := bthen hS d2
      (replace hr := hr.call d2); (replace hr' := hr'.call d2); (replace pa := pa.call d2); (replace pb := pb.call d2); (replace pr := pr.call d2)
      first | (with_reducible refine hK.out _ _ ⟨hS, pa, pb⟩ (fun _ => ?_)) | (go_wp2_with fail; with_reducible refine hK.out _ _ ⟨hS, pa, pb⟩ (fun _ => ?_))
      clear hK K
      have y1 : m1 ≤ n := by rw [← r1.len]; exact hlen
      (try simp only [Act.put, List.setIfInBounds_toArray, List.set_cons_zero, List.set_cons_succ])
      refine wpAnyH_ready (rs := [8]) (by kernel_rfl) (by simp) ?_
      refine AllReadyH.cons (o := ⟨_, _, _, _, _, _⟩) rfl (fun K hK => ?_) AllReadyH.nil
      go_simp
      refine (make_mag s _ r1 x1 x1' (by omega)).mono ?_
      rintro e u3 ⟨t2, B2, m2, e2, rfl, j2, d3⟩
      replace hS := bthen hS d3
      (replace hr := hr.call d3); (replace hr' := hr'.call d3); (replace pa := pa.call d3); (replace pb := pb.call d3); (replace pr := pr.call d3); (replace r1 := r1.call d3)
      first | (with_reducible refine hK.out _ _ ⟨hS, pa, pb⟩ (fun _ => ?_)) | (go_wp2_with fail; with_reducible refine hK.out _ _ ⟨hS, pa, pb⟩ (fun _ => ?_))
      clear hK K
      (try simp only [Act.put, List.setIfInBounds_toArray, List.set_cons_zero, List.set_cons_succ])
      refine wpAnyH_ready (rs := [9]) (by kernel_rfl) (by simp) ?_
      refine AllReadyH.cons (o := ⟨_, _, _, _, _, _⟩) rfl (fun K hK => ?_) AllReadyH.nil
      obtain ⟨q0, q1, f0, f1, k0, k1⟩ := pr.all (.bool t2) (.slice B2 m2 e2)
      have hSb := hS
      go_simp
      replace hS := below_stored hS (g := w.heap.size + 1 + 1) (by omega) (.bool t2) (.slice B2 m2 e2)
      refine hK.out _ _ ⟨hS, (pa.far (by omega) _ _), (pb.far (by omega) _ _)⟩ (fun _ => ?_)
      clear hK K
      (try simp only [Act.put, List.setIfInBounds_toArray, List.set_cons_zero, List.set_cons_succ])
      refine wpAnyH_done (by kernel_rfl) ?_ _
      go_wp2
      ((try simp only [Exit.inBlock, Exit.then]); refine bodyPost_ret (by simp [results, Tryz.results53, go_sem, k0, k1]; try rfl) rfl ?_)
      exact RetInt.stored j2 pr hSb (by omega)
    · have hz : sgn s (val ds) + sgn t (val ds') = sgn t (val ds' - val ds) := by unfold sgn; cases s <;> cases t <;> simp at hst <;> simp <;> omega
      have hge : cmp3 (val ds) (val ds') = -1 := cmp3_lt (by omega)
      rw [hge] at HC
      rw [hz]
      clear hz hge
      have hlb := len_of_rd h1' h2' (show val ds ≤ val ds' by omega)
      have hlen : (digits (val ds' - val ds)).length ≤ n' := len_of_rd h1' h2' (by omega)
      have HT := Lib.hid (fun W h => refTrim_mag (c := c) (A := A) (n := n) (xs := ds) (B := W.heap.size) W h h2 h3 h4)
      have HM := Lib.hid (fun W m' h h' hm => subDigits_any (c := c') (c' := c) (A := A') (A' := A) (n := n') (n' := m') (xs := ds') (ys := digits (val ds)) W h h' h2' (digits_w32 _) (by omega) hm (by rw [val_digits]; omega))
      rw [val_digits] at HM
      clear hab
      generalize val ds' - val ds = v at *
      generalize val ds = v' at *
      go_enter Tryz.func53, Tryz.ntmps53
      go_wp2_with fail
      rw [← hW]
      clear hW
      go_wp2_with fail
      refine HC.out.mono ?_
      rintro e w1 ⟨rfl, hq1⟩
      have b2 := qbelow hq1
      clear hq1 HC
      (replace pa := pa.call b2); (replace pb := pb.call b2); (replace pr := pr.call b2); (replace hr := hr.call b2); (replace hr' := hr'.call b2)
      replace hS := bthen hS b2
      clear a0 a1 b0 b1 b2
      go_wp2_with fail
      have d0 := bdrew w1
      (replace hr := hr.call d0); (replace hr' := hr'.call d0); (replace pa := pa.call d0); (replace pb := pb.call d0); (replace pr := pr.call d0)
      replace hS := bthen hS d0
      clear d0
      refine wp_region_held_drew (S := fun w' => Below w.heap.size w w' ∧ Pr w' (w.heap.size) s A n c ∧ Pr w' (w.heap.size + 1) t A' n' c') (by kernel_rfl) ⟨hS, pa, pb⟩ (fun _ => ?_)
      generalize w1.drew = u0 at *
      refine wpAnyH_take (i := 0) (oi := ⟨_, _, _, _, _, _⟩) (v := ?_) rfl (by kernel_rfl) (by kernel_rfl) (by kernel_rfl) (fun _ _ _ h => h) (Or.inl ⟨by rfl, ?_⟩) ⟨hS, pa, pb⟩ ?_
      rotate_left
      · intro w' hS'; (first | (go_simp; done) | (go_simp; with_reducible rfl) | with_reducible rfl)
      (try simp only [Act.put, List.setIfInBounds_toArray, List.set_cons_zero, List.set_cons_succ])
      refine wpAnyH_take (i := 1) (oi := ⟨_, _, _, _, _, _⟩) (v := ?_) rfl (by kernel_rfl) (by kernel_rfl) (by kernel_rfl) (fun _ _ _ h => h) (Or.inl ⟨by rfl, ?_⟩) ⟨hS, pa, pb⟩ ?_
      rotate_left
      · intro w' hS'; obtain ⟨_, q_pa, q_pb⟩ := hS'; have c0 := q_pb.cell0; have c1 := q_pb.cell1; (first | (go_simp; done) | (go_simp; with_reducible rfl) | with_reducible rfl)
      (try simp only [Act.put, List.setIfInBounds_toArray, List.set_cons_zero, List.set_cons_succ])
      refine wpAnyH_take (i := 2) (oi := ⟨_, _, _, _, _, _⟩) (v := ?_) rfl (by kernel_rfl) (by kernel_rfl) (by kernel_rfl) (fun _ _ _ h => h) (Or.inl ⟨by rfl, ?_⟩) ⟨hS, pa, pb⟩ ?_
      rotate_left
      · intro w' hS'; (first | (go_simp; done) | (go_simp; with_reducible rfl) | with_reducible rfl)
      (try simp only [Act.put, List.setIfInBounds_toArray, List.set_cons_zero, List.set_cons_succ])
      refine wpAnyH_take (i := 3) (oi := ⟨_, _, _, _, _, _⟩) (v := ?_) rfl (by kernel_rfl) (by kernel_rfl) (by kernel_rfl) (fun _ _ _ h => h) (Or.inl ⟨by rfl, ?_⟩) ⟨hS, pa, pb⟩ ?_
      rotate_left
      · intro w' hS'; obtain ⟨_, q_pa, q_pb⟩ := hS'; have c0 := q_pb.cell0; have c1 := q_pb.cell1; (first | (go_simp; done) | (go_simp; with_reducible rfl) | with_reducible rfl)
      (try simp only [Act.put, List.setIfInBounds_toArray, List.set_cons_zero, List.set_cons_succ])
      refine wpAnyH_take (i := 4) (oi := ⟨_, _, _, _, _, _⟩) (v := ?_) rfl (by kernel_rfl) (by kernel_rfl) (by kernel_rfl) (fun _ _ _ h => h) (Or.inl ⟨by rfl, ?_⟩) ⟨hS, pa, pb⟩ ?_
      rotate_left
      · intro w' hS'; (first | (go_simp; done) | (go_simp; with_reducible rfl) | with_reducible rfl)
      (try simp only [Act.put, List.setIfInBounds_toArray, List.set_cons_zero, List.set_cons_succ])
      refine wpAnyH_take (i := 5) (oi := ⟨_, _, _, _, _, _⟩) (v := ?_) rfl (by kernel_rfl) (by kernel_rfl) (by kernel_rfl) (fun _ _ _ h => h) (Or.inl ⟨by rfl, ?_⟩) ⟨hS, pa, pb⟩ ?_
      rotate_left
      · intro w' hS'; obtain ⟨_, q_pa, q_pb⟩ := hS'; have c0 := q_pa.cell0; have c1 := q_pa.cell1; (first | (go_simp; done) | (go_simp; with_reducible rfl) | with_reducible rfl)
      (try simp only [Act.put, List.setIfInBounds_toArray, List.set_cons_zero, List.set_cons_succ])
      refine wpAnyH_ready (rs := [6]) (by kernel_rfl) (by simp) ?_
      refine AllReadyH.cons (o := ⟨_, _, _, _, _, _⟩) rfl (fun K hK => ?_) AllReadyH.nil
      go_simp
      refine (HT.out _ hr).mono ?_
      rintro e u1 ⟨m0, rfl, r0, z0, rfl⟩
      first | (with_reducible refine hK.out _ _ ⟨hS, pa, pb⟩ (fun _ => ?_)) | (go_wp2_with fail; with_reducible refine hK.out _ _ ⟨hS, pa, pb⟩ (fun _ => ?_))
      clear hK K
      have y0 : m0 ≤ n' := by rw [← r0.len]; exact hlb
      (try simp only [Act.put, List.setIfInBounds_toArray, List.set_cons_zero, List.set_cons_succ])
      refine wpAnyH_ready (rs := [7]) (by kernel_rfl) (by simp) ?_
      refine AllReadyH.cons (o := ⟨_, _, _, _, _, _⟩) rfl (fun K hK => ?_) AllReadyH.nil
      go_simp
      refine (HM.out _ _ hr' r0 y0).mono ?_
      rintro e u2 ⟨B1, m1, e1, rfl, r1, x1, x1', d2⟩
      replace hS := bthen hS d2
      (replace hr := hr.call d2); (replace hr' := hr'.call d2); (replace pa := pa.call d2); (replace pb := pb.call d2); (replace pr := pr.call d2)
      first | (with_reducible refine hK.out _ _ ⟨hS, pa, pb⟩ (fun _ => ?_)) | (go_wp2_with fail; with_reducible refine hK.out _ _ ⟨hS, pa, pb⟩ (fun _ => ?_))
      clear hK K
      have y1 : m1 ≤ n' := by rw [← r1.len]; exact hlen
      (try simp only [Act.put, List.setIfInBounds_toArray, List.set_cons_zero, List.set_cons_succ])
      refine wpAnyH_ready (rs := [8]) (by kernel_rfl) (by simp) ?_
      refine AllReadyH.cons (o := ⟨_, _, _, _, _, _⟩) rfl (fun K hK => ?_) AllReadyH.nil
      go_simp
      refine (make_mag t _ r1 x1 x1' (by omega)).mono ?_
      rintro e u3 ⟨t2, B2, m2, e2, rfl, j2, d3⟩
      replace hS := bthen hS d3
      (replace hr := hr.call d3); (replace hr' := hr'.call d3); (replace pa := pa.call d3); (replace pb := pb.call d3); (replace pr := pr.call d3); (replace r1 := r1.call d3)
      first | (with_reducible refine hK.out _ _ ⟨hS, pa, pb⟩ (fun _ => ?_)) | (go_wp2_with fail; with_reducible refine hK.out _ _ ⟨hS, pa, pb⟩ (fun _ => ?_))
      clear hK K
      (try simp only [Act.put, List.setIfInBounds_toArray, List.set_cons_zero, List.set_cons_succ])
      refine wpAnyH_ready (rs := [9]) (by kernel_rfl) (by simp) ?_
      refine AllReadyH.cons (o := ⟨_, _, _, _, _, _⟩) rfl (fun K hK => ?_) AllReadyH.nil
      obtain ⟨q0, q1, f0, f1, k0, k1⟩ := pr.all (.bool t2) (.slice B2 m2 e2)
      have hSb := hS
      go_simp
      replace hS := below_stored hS (g := w.heap.size + 1 + 1) (by omega) (.bool t2) (.slice B2 m2 e2)
      refine hK.out _ _ ⟨hS, (pa.far (by omega) _ _), (pb.far (by omega) _ _)⟩ (fun _ => ?_)
      clear hK K
      (try simp only [Act.put, List.setIfInBounds_toArray, List.set_cons_zero, List.set_cons_succ])
      refine wpAnyH_done (by kernel_rfl) ?_ _
      go_wp2
      ((try simp only [Exit.inBlock, Exit.then]); refine bodyPost_ret (by simp [results, Tryz.results53, go_sem, k0, k1]; try rfl) rfl ?_)
      exact RetInt.stored j2 pr hSb (by omega)

set_option maxRecDepth 100000 in
theorem refSub_any {s t : Bool} {A A' : Option Addr} {n n' c c' : Nat} {x y : Int} (w : World) (ha : AInt w s A n c x) (hb : AInt w t A' n' c' y) (hn : n ≤ 274877906944) (hn' : n' ≤ 274877906944) :
    Calls Tryz.prog 117 #[.agg #[.bool s, .slice A n c], .agg #[.bool t, .slice A' n' c']] w (RetInt w (x - y)) := by
  obtain ⟨W, hW, hS, pa, pb, pr⟩ := boxes2 w s t A A' n n' c c'
  replace ha := ha.call hS
  replace hb := hb.call hS
  have ly := hb.lim.neg
  rw [Int.sub_eq_add_neg]
  go_enter Tryz.func117, Tryz.ntmps117
  go_wp2_with fail
  rw [← hW]
  clear hW
  have d0 := bdrew W
  (replace ha := ha.call d0); (replace hb := hb.call d0); (replace pa := pa.call d0); (replace pb := pb.call d0); (replace pr := pr.call d0)
  replace hS := bthen hS d0
  clear d0
  refine wp_region_held_drew (S := fun w' => Below w.heap.size w w' ∧ Pr w' (w.heap.size) s A n c ∧ Pr w' (w.heap.size + 1) t A' n' c') (by kernel_rfl) ⟨hS, pa, pb⟩ (fun _ => ?_)
  generalize W.drew = u0 at *
  refine wpAnyH_take (i := 0) (oi := ⟨_, _, _, _, _, _⟩) (v := ?_) rfl (by kernel_rfl) (by kernel_rfl) (by kernel_rfl) (fun _ _ _ h => h) (Or.inl ⟨by rfl, ?_⟩) ⟨hS, pa, pb⟩ ?_
  rotate_left
  · intro w' hS'; obtain ⟨_, q_pa, q_pb⟩ := hS'; have c0 := q_pa.cell0; have c1 := q_pa.cell1; (first | (go_simp; done) | (go_simp; with_reducible rfl) | with_reducible rfl)
  (try simp only [Act.put, List.setIfInBounds_toArray, List.set_cons_zero, List.set_cons_succ])
  refine wpAnyH_take (i := 1) (oi := ⟨_, _, _, _, _, _⟩) (v := ?_) rfl (by kernel_rfl) (by kernel_rfl) (by kernel_rfl) (fun _ _ _ h => h) (Or.inl ⟨by rfl, ?_⟩) ⟨hS, pa, pb⟩ ?_
  rotate_left
  · intro w' hS'; obtain ⟨_, q_pa, q_pb⟩ := hS'; have c0 := q_pb.cell0; have c1 := q_pb.cell1; (first | (go_simp; done) | (go_simp; with_reducible rfl) | with_reducible rfl)
  (try simp only [Act.put, List.setIfInBounds_toArray, List.set_cons_zero, List.set_cons_succ])
  refine wpAnyH_ready (rs := [2]) (by kernel_rfl) (by simp) ?_
  refine AllReadyH.cons (o := ⟨_, _, _, _, _, _⟩) rfl (fun K hK => ?_) AllReadyH.nil
  go_simp
  refine (refNegate_any _ hb (by omega)).mono ?_
  rintro e u1 ⟨t1, B1, m1, e1, rfl, j1, d1⟩
  replace hS := bthen hS d1
  (replace ha := ha.call d1); (replace hb := hb.call d1); (replace pa := pa.call d1); (replace pb := pb.call d1); (replace pr := pr.call d1)
  first | (with_reducible refine hK.out _ _ ⟨hS, pa, pb⟩ (fun _ => ?_)) | (go_wp2_with fail; with_reducible refine hK.out _ _ ⟨hS, pa, pb⟩ (fun _ => ?_))
  clear hK K
  have y1 := j1.len ly
  (try simp only [Act.put, List.setIfInBounds_toArray, List.set_cons_zero, List.set_cons_succ])
  refine wpAnyH_ready (rs := [3]) (by kernel_rfl) (by simp) ?_
  refine AllReadyH.cons (o := ⟨_, _, _, _, _, _⟩) rfl (fun K hK => ?_) AllReadyH.nil
  go_simp
  refine (refAdd_any _ ha j1.any (by omega) (by omega)).mono ?_
  rintro e u2 ⟨t2, B2, m2, e2, rfl, j2, d2⟩
  replace hS := bthen hS d2
  (replace ha := ha.call d2); (replace hb := hb.call d2); (replace pa := pa.call d2); (replace pb := pb.call d2); (replace pr := pr.call d2); (replace j1 := j1.call d2)
  first | (with_reducible refine hK.out _ _ ⟨hS, pa, pb⟩ (fun _ => ?_)) | (go_wp2_with fail; with_reducible refine hK.out _ _ ⟨hS, pa, pb⟩ (fun _ => ?_))
  clear hK K
  (try simp only [Act.put, List.setIfInBounds_toArray, List.set_cons_zero, List.set_cons_succ])
  refine wpAnyH_ready (rs := [4]) (by kernel_rfl) (by simp) ?_
  refine AllReadyH.cons (o := ⟨_, _, _, _, _, _⟩) rfl (fun K hK => ?_) AllReadyH.nil
  obtain ⟨q0, q1, f0, f1, k0, k1⟩ := pr.all (.bool t2) (.slice B2 m2 e2)
  have hSb := hS
  go_simp
  replace hS := below_stored hS (g := w.heap.size + 1 + 1) (by omega) (.bool t2) (.slice B2 m2 e2)
  refine hK.out _ _ ⟨hS, (pa.far (by omega) _ _), (pb.far (by omega) _ _)⟩ (fun _ => ?_)
  clear hK K
  (try simp only [Act.put, List.setIfInBounds_toArray, List.set_cons_zero, List.set_cons_succ])
  refine wpAnyH_done (by kernel_rfl) ?_ _
  go_wp2
  ((try simp only [Exit.inBlock, Exit.then]); refine bodyPost_ret (by simp [results, Tryz.results117, go_sem, k0, k1]; try rfl) rfl ?_)
  exact RetInt.stored j2 pr hSb (by omega)
end Go.Proofs.YtociocengfjioaaGreatDoor
