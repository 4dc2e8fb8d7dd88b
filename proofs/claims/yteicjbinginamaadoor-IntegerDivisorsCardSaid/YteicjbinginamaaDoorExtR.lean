/- Walk of ExtendedGCD of the reference. -/
import Derived.Test.YteicjbinginamaaDoorExt
import Derived.Test.YteicjbinginamaaDoorGcdR
namespace Go.Proofs.YteicjbinginamaaDoor
open Go.RowKit
set_option linter.unusedVariables false

theorem refDivMod_ne {s t : Bool} {A A' : Option Addr} {n n' c c' : Nat} {x y : Int} (w : World) (ha : AInt w s A n c x) (hb : AInt w t A' n' c' y) (hn : n ≤ 1073741824) (hn' : n' ≤ 1073741824) (hy : y ≠ 0) :
  Calls Tryd.prog 15 #[.agg #[.bool s, .slice A n c], .agg #[.bool t, .slice A' n' c']] w (RetDN w (x.fdiv y) (x.fmod y)) := (refDivMod_any w ha hb hn hn').mono fun _ _ h => h.ne hy
theorem CInt.len_zero {w : World} {s : Bool} {A : Option Addr} {n c : Nat} {z : Int} (h : CInt w s A n c z) : n = 0 ↔ z = 0 := by
 have := h.1.len
 have := digits_nil_iff z.natAbs
 omega
theorem Bx.call {w w' : World} {g : Nat} {z : Int} (h : Bx w g z) (hb : Below w.heap.size w w') : Bx w' g z := by
 obtain ⟨s, A, n, c, p, i⟩ := h
 exact ⟨s, A, n, c, p.call hb, i.call hb⟩
theorem Bx.far {w : World} {g g' : Nat} {z : Int} {s : Bool} {A : Option Addr} {n c : Nat} (h : Bx w g z) (p : Pr w g' s A n c) (hne : g ≠ g') (u v : Value) : Bx ((w.setCell ⟨g', 0, none⟩ u).setCell ⟨g', 1, none⟩ v) g z := by
 obtain ⟨s, A, n, c, q, i⟩ := h
 exact ⟨s, A, n, c, q.far hne u v, i.stored p u v⟩
/-- what the loop leaves alone -/
structure ExS (w wr : World) (g7 g8 : Nat) (x y : Int) (g m : Nat) : Prop where
 b2 : Bx wr w.heap.size x
 b3 : Bx wr (w.heap.size + 1) y
 p4 : Pr wr (w.heap.size + 1 + 1) false none 0 0
 p5 : Pr wr (w.heap.size + 1 + 1 + 1) false none 0 0
 p6 : Pr wr (w.heap.size + 1 + 1 + 1 + 1) false none 0 0
 b7 : Bx wr g7 (g : Int)
 b8 : Bx wr g8 (m : Int)
 o1 : w.heap.size + 1 + 1 + 1 + 1 < g7
 o2 : g7 < g8
theorem ExS.call {w wr w' : World} {g7 g8 : Nat} {x y : Int} {g m : Nat} (h : ExS w wr g7 g8 x y g m) (hb : Below wr.heap.size wr w') : ExS w w' g7 g8 x y g m :=
 ⟨h.b2.call hb, h.b3.call hb, h.p4.call hb, h.p5.call hb, h.p6.call hb, h.b7.call hb, h.b8.call hb, h.o1, h.o2⟩
theorem ExS.stored {w wr : World} {g7 g8 : Nat} {x y : Int} {g m gk : Nat} {s : Bool} {A : Option Addr} {n c : Nat} (h : ExS w wr g7 g8 x y g m) (p : Pr wr gk s A n c) (u v : Value) (hg : g8 < gk := by omega) : ExS w ((wr.setCell ⟨gk, 0, none⟩ u).setCell ⟨gk, 1, none⟩ v) g7 g8 x y g m := by
 have o1 := h.o1
 have o2 := h.o2
 exact ⟨h.b2.far p (by omega) _ _, h.b3.far p (by omega) _ _, h.p4.far (by omega) _ _, h.p5.far (by omega) _ _, h.p6.far (by omega) _ _, h.b7.far p (by omega) _ _, h.b8.far p (by omega) _ _, o1, o2⟩
/-- the state of the loop of the reference's ExtendedGCD -/
def ExW (w wr : World) (g7 g8 g14 g15 g16 : Nat) (x y : Int) (g m : Nat) (T : Int) (r1 : Nat) : Prop :=
 ∃ (r0 : Nat) (s0 s1 : Int), InvP m r0 r1 s0 s1 T ∧ r1 ≤ m ∧ ExS w wr g7 g8 x y g m ∧ Bx wr g14 (r0 : Int) ∧ Bx wr g15 (r1 : Int) ∧ Bx wr g16 s0 ∧ Bx wr (g16 + 1) s1 ∧ Below w.heap.size w wr

set_option maxHeartbeats 4000000 in
set_option maxRecDepth 100000 in
theorem refExt_any {s t : Bool} {A A' : Option Addr} {n n' c c' : Nat} {x y : Int} (w : World) (ha : AInt w s A n c x) (hb : AInt w t A' n' c' y) (hn : n ≤ 64) (hn' : n' ≤ 64) :
  Calls Tryd.prog 47 #[.agg #[.bool s, .slice A n c], .agg #[.bool t, .slice A' n' c']] w (RetEx w (exG x y) (exU x y) (exV x y)) := by
 obtain ⟨W, hWe, hW, p2, p3, p4, p5, p6⟩ := boxes2r3 w s t A A' n n' c c'
 have i2 := ha.call hW
 have i3 := hb.call hW
 have LX : Lim 64 x := i2.lim.mono hn
 have LY : Lim 64 y := i3.lim.mono hn'
 have LG := exG_lim LX LY
 have hg0 := exG_nonneg x y
 clear ha hb
 have HGC : Hid (∀ W s A n c s' A' n' c', CInt W s A n c x → CInt W s' A' n' c' y → Calls Tryd.prog 78 #[.agg #[.bool s, .slice A n c], .agg #[.bool s', .slice A' n' c']] W (RetInt W (exG x y))) := fun W s A n c s' A' n' c' h h' => refGcd_any W h.any h'.any (Nat.le_trans (h.len LX) (by omega)) (Nat.le_trans (h'.len LY) (by omega))
 go_enter Tryd.func47, Tryd.ntmps47
 go_upto_region 1 with (fail)
 rw [← hWe]
 clear hWe
 go_upto_region 1 with (fail)
 go_cut [] (fun wz => Hid (Bx wz (w.heap.size) (x) ∧ Bx wz (w.heap.size + 1) (y) ∧ Pr wz (w.heap.size + 1 + 1) false none 0 0 ∧ Pr wz (w.heap.size + 1 + 1 + 1) false none 0 0 ∧ Pr wz (w.heap.size + 1 + 1 + 1 + 1) false none 0 0 ∧ Below w.heap.size w wz))
 case first =>
  as_aux_lemma =>
   refine wp_region_late (S := fun w' => Below W.heap.size W w') (late := fun k => k == 4 || k == 5) (by kernel_rfl) ?_
   have hS : Below W.heap.size W W.drew := bdrew W
   generalize W.drew = u0 at hS ⊢
   refine wpAnyL_take (i := 0) (oi := ⟨_, _, _, _, _, _⟩) (v := ?_) (by intro k hk; simp at hk; simp; omega) rfl (by kernel_rfl) (by kernel_rfl) (by kernel_rfl) (by kernel_rfl) (fun _ _ _ h => h) (Or.inl ⟨by rfl, ?_⟩) hS ?_
   rotate_left
   ·intro w' hS'; have p' := p2.call hS'; have c0 := p'.cell0; have c1 := p'.cell1; (first | (go_simp; done) | (go_simp; with_reducible rfl) | with_reducible rfl)
   (try simp only [Act.put, List.setIfInBounds_toArray, List.set_cons_zero, List.set_cons_succ])
   refine wpAnyL_take (i := 2) (oi := ⟨_, _, _, _, _, _⟩) (v := ?_) (by intro k hk; simp at hk; simp; omega) rfl (by kernel_rfl) (by kernel_rfl) (by kernel_rfl) (by kernel_rfl) (fun _ _ _ h => h) (Or.inl ⟨by rfl, ?_⟩) hS ?_
   rotate_left
   ·intro w' hS'; have p' := p3.call hS'; have c0 := p'.cell0; have c1 := p'.cell1; (first | (go_simp; done) | (go_simp; with_reducible rfl) | with_reducible rfl)
   (try simp only [Act.put, List.setIfInBounds_toArray, List.set_cons_zero, List.set_cons_succ])
   refine wpAnyL_ready (rs := [1]) (by kernel_rfl) (by simp) ?_
   refine AllReadyL.cons (o := ⟨_, _, _, _, _, _⟩) rfl (fun K hK => ?_) AllReadyL.nil
   go_simp
   refine (canon_any _ (i2.call hS) (by omega)).mono ?_
   rintro e u1 ⟨t1, B1, m1, e1, rfl, j1, d1⟩
   replace hS := bthen hS d1
   first | (with_reducible refine hK.out _ _ (SL.of hS) ?_) | (go_wp2_with fail; with_reducible refine hK.out _ _ (SL.of hS) ?_)
   clear hK K
   (try simp only [Act.put, List.setIfInBounds_toArray, List.set_cons_zero, List.set_cons_succ])
   refine wpAnyL_ready (rs := [3]) (by kernel_rfl) (by simp) ?_
   refine AllReadyL.cons (o := ⟨_, _, _, _, _, _⟩) rfl (fun K hK => ?_) AllReadyL.nil
   go_simp
   refine (canon_any _ (i3.call hS) (by omega)).mono ?_
   rintro e u2 ⟨t2, B2, m2, e2, rfl, j2, d2⟩
   replace hS := bthen hS d2
   (replace j1 := j1.call d2)
   first | (with_reducible refine hK.out _ _ (SL.of hS) ?_) | (go_wp2_with fail; with_reducible refine hK.out _ _ (SL.of hS) ?_)
   clear hK K
   (try simp only [Act.put, List.setIfInBounds_toArray, List.set_cons_zero, List.set_cons_succ])
   refine wpAnyL_ready (rs := [4]) (by kernel_rfl) (by simp) ?_
   refine AllReadyL.cons (o := ⟨_, _, _, _, _, _⟩) rfl (fun K hK => ?_) AllReadyL.nil
   replace hW := bthen hW hS
   (replace i2 := i2.call hS); (replace i3 := i3.call hS); (replace p2 := p2.call hS); (replace p3 := p3.call hS); (replace p4 := p4.call hS); (replace p5 := p5.call hS); (replace p6 := p6.call hS)
   clear hS
   obtain ⟨q0, q1, f0, f1, k0, k1⟩ := p2.all (.bool t1) (.slice B1 m1 e1)
   go_simp
   refine hK.out _ _ (SL.done rfl) ?_
   clear hK K q0 q1 f0 f1 k0 k1
   replace hW := below_stored hW (g := w.heap.size) (by omega) (.bool t1) (.slice B1 m1 e1)
   replace j1 := j1.stored p2 (.bool t1) (.slice B1 m1 e1)
   replace j2 := j2.stored p2 (.bool t1) (.slice B1 m1 e1)
   replace i2 := i2.stored p2 (.bool t1) (.slice B1 m1 e1)
   replace i3 := i3.stored p2 (.bool t1) (.slice B1 m1 e1)
   replace p3 := p3.far (g' := w.heap.size) (by omega) (.bool t1) (.slice B1 m1 e1)
   replace p4 := p4.far (g' := w.heap.size) (by omega) (.bool t1) (.slice B1 m1 e1)
   replace p5 := p5.far (g' := w.heap.size) (by omega) (.bool t1) (.slice B1 m1 e1)
   replace p6 := p6.far (g' := w.heap.size) (by omega) (.bool t1) (.slice B1 m1 e1)
   replace p2 := p2.stored (s' := t1) (A' := B1) (n' := m1) (c' := e1)
   generalize (u2.setCell ⟨w.heap.size, 0, none⟩ (.bool t1)).setCell ⟨w.heap.size, 1, none⟩ (.slice B1 m1 e1) = su22 at *
   (try simp only [Act.put, List.setIfInBounds_toArray, List.set_cons_zero, List.set_cons_succ])
   refine wpAnyL_ready (rs := [5]) (by kernel_rfl) (by simp) ?_
   refine AllReadyL.cons (o := ⟨_, _, _, _, _, _⟩) rfl (fun K hK => ?_) AllReadyL.nil
   obtain ⟨q0, q1, f0, f1, k0, k1⟩ := p3.all (.bool t2) (.slice B2 m2 e2)
   go_simp
   refine hK.out _ _ (SL.done rfl) ?_
   clear hK K q0 q1 f0 f1 k0 k1
   replace hW := below_stored hW (g := w.heap.size + 1) (by omega) (.bool t2) (.slice B2 m2 e2)
   replace j1 := j1.stored p3 (.bool t2) (.slice B2 m2 e2)
   replace j2 := j2.stored p3 (.bool t2) (.slice B2 m2 e2)
   replace i2 := i2.stored p3 (.bool t2) (.slice B2 m2 e2)
   replace i3 := i3.stored p3 (.bool t2) (.slice B2 m2 e2)
   replace p2 := p2.far (g' := w.heap.size + 1) (by omega) (.bool t2) (.slice B2 m2 e2)
   replace p4 := p4.far (g' := w.heap.size + 1) (by omega) (.bool t2) (.slice B2 m2 e2)
   replace p5 := p5.far (g' := w.heap.size + 1) (by omega) (.bool t2) (.slice B2 m2 e2)
   replace p6 := p6.far (g' := w.heap.size + 1) (by omega) (.bool t2) (.slice B2 m2 e2)
   replace p3 := p3.stored (s' := t2) (A' := B2) (n' := m2) (c' := e2)
   generalize (su22.setCell ⟨w.heap.size + 1, 0, none⟩ (.bool t2)).setCell ⟨w.heap.size + 1, 1, none⟩ (.slice B2 m2 e2) = ssu223 at *
   (try simp only [Act.put, List.setIfInBounds_toArray, List.set_cons_zero, List.set_cons_succ])
   refine wpAnyL_done (by kernel_rfl) ?_ _
   go_wp2_with fail
   go_meet
   case rel => exact ⟨⟨_, _, _, _, p2, j1⟩, ⟨_, _, _, _, p3, j2⟩, p4, p5, p6, hW⟩
 case rest =>
  clear hW p2 p3 p4 p5 p6 i2 i3
  have HB := hcut
  obtain ⟨⟨s2, A2, n2, c2, p2, i2⟩, ⟨s3, A3, n3, c3, p3, i3⟩, p4, p5, p6, hW⟩ := HB.out
  obtain ⟨X1, rfl⟩ : ∃ X : World, X = wc := ⟨_, rfl⟩
  clear HB
  have l2 := i2.len LX
  have l3 := i3.len LY
  obtain ⟨o2_0, o2_1⟩ := p2.cells1
  obtain ⟨o3_0, o3_1⟩ := p3.cells1
  go_wp2_with fail
  refine (HGC.out _ _ _ _ _ _ _ _ _ i2 i3).mono ?_
  rintro e X2 ⟨s7, A7, n7, c7, rfl, i7, dX2⟩
  (replace p2 := p2.call dX2); (replace p3 := p3.call dX2); (replace p4 := p4.call dX2); (replace p5 := p5.call dX2); (replace p6 := p6.call dX2); (replace i2 := i2.call dX2); (replace i3 := i3.call dX2)
  replace hW := bthen hW dX2
  clear o2_0 o2_1 o3_0 o3_1
  have lt2_7 := p2.lt
  have lt3_7 := p3.lt
  have lt4_7 := p4.lt
  have lt5_7 := p5.lt
  have lt6_7 := p6.lt
  obtain ⟨X3, hX3⟩ : ∃ Y, Y = X2.alloc (.cells #[.bool s7, .slice A7 n7 c7] 24) := ⟨_, rfl⟩
  have dbX3 : Below X2.heap.size X2 X3 := by rw [hX3]; exact bone _ _
  have eX3 : X2.heap.size = X2.heap.size := by first | rfl | (rw [rfl]; simp)
  have p7 : Pr X3 (X2.heap.size) s7 A7 n7 c7 := by rw [← eX3, hX3]; exact Pr.new _ _ _ _ _
  (replace p2 := p2.call dbX3); (replace p3 := p3.call dbX3); (replace p4 := p4.call dbX3); (replace p5 := p5.call dbX3); (replace p6 := p6.call dbX3); (replace i2 := i2.call dbX3); (replace i3 := i3.call dbX3); (replace i7 := i7.call dbX3)
  replace hW := bthen hW dbX3
  go_upto_region 3 with (fail)
  rw [← hX3]
  clear eX3 hX3 dbX3
  generalize X2.heap.size = g7 at *
  have l7 := i7.len LG
  have hz3 := i3.len_zero
  obtain ⟨o30, o31⟩ := p3.cells1
  by_cases hy : y = 0
  ·have hn3 : n3 = 0 := hz3.2 hy
   subst hy hn3
   have HU : Hid (exU x 0 = x.sign) := by unfold Hid exU; rw [if_pos rfl]
   have HV : Hid (exV x 0 = 0) := by unfold Hid exV; rw [if_pos rfl]
   have hs1 : -1 ≤ x.sign := by rcases Int.lt_trichotomy x 0 with h | h | h <;> simp [Int.sign_eq_neg_one_of_neg, Int.sign_eq_one_of_pos, h]
   have hs2 : x.sign ≤ 1 := by rcases Int.lt_trichotomy x 0 with h | h | h <;> simp [Int.sign_eq_neg_one_of_neg, Int.sign_eq_one_of_pos, h]
   have HSG := Lib.hid (fun W s A n c (h : CInt W s A n c x) => refSign_any (x := x) W h.any (Nat.le_trans (h.len LX) (by omega)))
   obtain ⟨sg, hsg⟩ : ∃ sg, x.sign = sg := ⟨_, rfl⟩
   rw [hsg] at HU HSG hs1 hs2
   clear hsg hz3
   go_upto_region 4 with (fail)
   clear o30 o31
   have d0 := bdrew X3
   (replace i2 := i2.call d0); (replace i7 := i7.call d0); (replace p7 := p7.call d0); (replace p2 := p2.call d0); (replace p4 := p4.call d0); (replace p5 := p5.call d0); (replace p6 := p6.call d0)
   replace hW := bthen hW d0
   clear d0
   refine wp_region_held_drew (S := fun w' => Below w.heap.size w w' ∧ Pr w' (g7) s7 A7 n7 c7 ∧ Pr w' (w.heap.size) s2 A2 n2 c2) (by kernel_rfl) ⟨hW, p7, p2⟩ (fun _ => ?_)
   generalize X3.drew = u0 at *
   refine wpAnyH_take (i := 0) (oi := ⟨_, _, _, _, _, _⟩) (v := ?_) rfl (by kernel_rfl) (by kernel_rfl) (by kernel_rfl) (fun _ _ _ h => h) (Or.inl ⟨by rfl, ?_⟩) ⟨hW, p7, p2⟩ ?_
   rotate_left
   ·intro w' hS'; obtain ⟨_, q_p7, q_p2⟩ := hS'; have c0 := q_p7.cell0; have c1 := q_p7.cell1; (first | (go_simp; done) | (go_simp; with_reducible rfl) | with_reducible rfl)
   (try simp only [Act.put, List.setIfInBounds_toArray, List.set_cons_zero, List.set_cons_succ])
   refine wpAnyH_take (i := 1) (oi := ⟨_, _, _, _, _, _⟩) (v := ?_) rfl (by kernel_rfl) (by kernel_rfl) (by kernel_rfl) (fun _ _ _ h => h) (Or.inl ⟨by rfl, ?_⟩) ⟨hW, p7, p2⟩ ?_
   rotate_left
   ·intro w' hS'; obtain ⟨_, q_p7, q_p2⟩ := hS'; have c0 := q_p2.cell0; have c1 := q_p2.cell1; (first | (go_simp; done) | (go_simp; with_reducible rfl) | with_reducible rfl)
   (try simp only [Act.put, List.setIfInBounds_toArray, List.set_cons_zero, List.set_cons_succ])
   refine wpAnyH_take (i := 4) (oi := ⟨_, _, _, _, _, _⟩) (v := ?_) rfl (by kernel_rfl) (by kernel_rfl) (by kernel_rfl) (fun _ _ _ h => h) (Or.inl ⟨by rfl, ?_⟩) ⟨hW, p7, p2⟩ ?_
   rotate_left
   ·intro w' hS'; (first | (go_simp; done) | (go_simp; with_reducible rfl) | with_reducible rfl)
   (try simp only [Act.put, List.setIfInBounds_toArray, List.set_cons_zero, List.set_cons_succ])
   refine wpAnyH_ready (rs := [2]) (by kernel_rfl) (by simp) ?_
   refine AllReadyH.cons (o := ⟨_, _, _, _, _, _⟩) rfl (fun K hK => ?_) AllReadyH.nil
   go_simp
   refine (HSG.out _ _ _ _ _ i2).mono ?_
   rintro e u1 ⟨rfl, d1⟩
   replace hW := bthen hW d1
   (replace i2 := i2.call d1); (replace i7 := i7.call d1); (replace p7 := p7.call d1); (replace p2 := p2.call d1); (replace p4 := p4.call d1); (replace p5 := p5.call d1); (replace p6 := p6.call d1)
   first | (with_reducible refine hK.out _ _ ⟨hW, p7, p2⟩ (fun _ => ?_)) | (go_wp2_with fail; with_reducible refine hK.out _ _ ⟨hW, p7, p2⟩ (fun _ => ?_))
   clear hK K
   (try simp only [Act.put, List.setIfInBounds_toArray, List.set_cons_zero, List.set_cons_succ])
   refine wpAnyH_ready (rs := [3]) (by kernel_rfl) (by simp) ?_
   refine AllReadyH.cons (o := ⟨_, _, _, _, _, _⟩) rfl (fun K hK => ?_) AllReadyH.nil
   go_simp
   refine (refFromInt64_any sg _ (by omega) (by omega)).mono ?_
   rintro e u2 ⟨t3, B3, m3, e3, rfl, j3, d2⟩
   replace hW := bthen hW d2
   (replace i2 := i2.call d2); (replace i7 := i7.call d2); (replace p7 := p7.call d2); (replace p2 := p2.call d2); (replace p4 := p4.call d2); (replace p5 := p5.call d2); (replace p6 := p6.call d2)
   first | (with_reducible refine hK.out _ _ ⟨hW, p7, p2⟩ (fun _ => ?_)) | (go_wp2_with fail; with_reducible refine hK.out _ _ ⟨hW, p7, p2⟩ (fun _ => ?_))
   clear hK K
   (try simp only [Act.put, List.setIfInBounds_toArray, List.set_cons_zero, List.set_cons_succ])
   refine wpAnyH_ready (rs := [5]) (by kernel_rfl) (by simp) ?_
   refine AllReadyH.cons (o := ⟨_, _, _, _, _, _⟩) rfl (fun K hK => ?_) AllReadyH.nil
   obtain ⟨q0, q1, f0, f1, k0, k1⟩ := p4.all (.bool s7) (.slice A7 n7 c7)
   go_simp
   clear q0 q1 f0 f1 k0 k1
   replace hW := below_stored hW (g := w.heap.size + 1 + 1) (by omega) (.bool s7) (.slice A7 n7 c7)
   replace j3 := j3.stored p4 (.bool s7) (.slice A7 n7 c7)
   replace i2 := i2.stored p4 (.bool s7) (.slice A7 n7 c7)
   replace i7 := i7.stored p4 (.bool s7) (.slice A7 n7 c7)
   replace p7 := p7.far (g' := w.heap.size + 1 + 1) (by omega) (.bool s7) (.slice A7 n7 c7)
   replace p2 := p2.far (g' := w.heap.size + 1 + 1) (by omega) (.bool s7) (.slice A7 n7 c7)
   replace p5 := p5.far (g' := w.heap.size + 1 + 1) (by omega) (.bool s7) (.slice A7 n7 c7)
   replace p6 := p6.far (g' := w.heap.size + 1 + 1) (by omega) (.bool s7) (.slice A7 n7 c7)
   replace p4 := p4.stored (s' := s7) (A' := A7) (n' := n7) (c' := c7)
   generalize (u2.setCell ⟨w.heap.size + 1 + 1, 0, none⟩ (.bool s7)).setCell ⟨w.heap.size + 1 + 1, 1, none⟩ (.slice A7 n7 c7) = su24 at *
   refine hK.out _ _ ⟨hW, p7, p2⟩ (fun _ => ?_)
   clear hK K
   (try simp only [Act.put, List.setIfInBounds_toArray, List.set_cons_zero, List.set_cons_succ])
   refine wpAnyH_ready (rs := [6]) (by kernel_rfl) (by simp) ?_
   refine AllReadyH.cons (o := ⟨_, _, _, _, _, _⟩) rfl (fun K hK => ?_) AllReadyH.nil
   obtain ⟨q0, q1, f0, f1, k0, k1⟩ := p5.all (.bool t3) (.slice B3 m3 e3)
   go_simp
   clear q0 q1 f0 f1 k0 k1
   replace hW := below_stored hW (g := w.heap.size + 1 + 1 + 1) (by omega) (.bool t3) (.slice B3 m3 e3)
   replace j3 := j3.stored p5 (.bool t3) (.slice B3 m3 e3)
   replace i2 := i2.stored p5 (.bool t3) (.slice B3 m3 e3)
   replace i7 := i7.stored p5 (.bool t3) (.slice B3 m3 e3)
   replace p7 := p7.far (g' := w.heap.size + 1 + 1 + 1) (by omega) (.bool t3) (.slice B3 m3 e3)
   replace p2 := p2.far (g' := w.heap.size + 1 + 1 + 1) (by omega) (.bool t3) (.slice B3 m3 e3)
   replace p4 := p4.far (g' := w.heap.size + 1 + 1 + 1) (by omega) (.bool t3) (.slice B3 m3 e3)
   replace p6 := p6.far (g' := w.heap.size + 1 + 1 + 1) (by omega) (.bool t3) (.slice B3 m3 e3)
   replace p5 := p5.stored (s' := t3) (A' := B3) (n' := m3) (c' := e3)
   generalize (su24.setCell ⟨w.heap.size + 1 + 1 + 1, 0, none⟩ (.bool t3)).setCell ⟨w.heap.size + 1 + 1 + 1, 1, none⟩ (.slice B3 m3 e3) = ssu245 at *
   refine hK.out _ _ ⟨hW, p7, p2⟩ (fun _ => ?_)
   clear hK K
   (try simp only [Act.put, List.setIfInBounds_toArray, List.set_cons_zero, List.set_cons_succ])
   refine wpAnyH_ready (rs := [7]) (by kernel_rfl) (by simp) ?_
   refine AllReadyH.cons (o := ⟨_, _, _, _, _, _⟩) rfl (fun K hK => ?_) AllReadyH.nil
   obtain ⟨q0, q1, f0, f1, k0, k1⟩ := p6.all (.bool false) (.slice none 0 0)
   go_simp
   clear q0 q1 f0 f1 k0 k1
   replace hW := below_stored hW (g := w.heap.size + 1 + 1 + 1 + 1) (by omega) (.bool false) (.slice none 0 0)
   replace j3 := j3.stored p6 (.bool false) (.slice none 0 0)
   replace i2 := i2.stored p6 (.bool false) (.slice none 0 0)
   replace i7 := i7.stored p6 (.bool false) (.slice none 0 0)
   replace p7 := p7.far (g' := w.heap.size + 1 + 1 + 1 + 1) (by omega) (.bool false) (.slice none 0 0)
   replace p2 := p2.far (g' := w.heap.size + 1 + 1 + 1 + 1) (by omega) (.bool false) (.slice none 0 0)
   replace p4 := p4.far (g' := w.heap.size + 1 + 1 + 1 + 1) (by omega) (.bool false) (.slice none 0 0)
   replace p5 := p5.far (g' := w.heap.size + 1 + 1 + 1 + 1) (by omega) (.bool false) (.slice none 0 0)
   replace p6 := p6.stored (s' := false) (A' := none) (n' := 0) (c' := 0)
   generalize (ssu245.setCell ⟨w.heap.size + 1 + 1 + 1 + 1, 0, none⟩ (.bool false)).setCell ⟨w.heap.size + 1 + 1 + 1 + 1, 1, none⟩ (.slice none 0 0) = sssu2456 at *
   refine hK.out _ _ ⟨hW, p7, p2⟩ (fun _ => ?_)
   clear hK K
   (try simp only [Act.put, List.setIfInBounds_toArray, List.set_cons_zero, List.set_cons_succ])
   refine wpAnyH_done (by kernel_rfl) ?_ _
   obtain ⟨x0, x1⟩ := p4.cells1
   obtain ⟨x2, x3⟩ := p5.cells1
   obtain ⟨x4, x5⟩ := p6.cells1
   go_wp2
   refine bodyPost_ret (v := .tuple #[.agg #[.bool s7, .slice A7 n7 c7], .agg #[.bool t3, .slice B3 m3 e3], .agg #[.bool false, .slice none 0 0]]) (by simp [results, Tryd.results47, go_sem, x0, x1, x2, x3, x4, x5]) rfl ?_
   exact ⟨_, _, _, _, _, _, _, _, _, _, _, _, rfl, i7, by rw [HU.out]; exact j3, by rw [HV.out]; exact CInt.zero _, hW⟩
  ·have hne3 : n3 ≠ 0 := fun h => hy (hz3.1 h)
   have hb3 : ((n3 : Int) == 0) = false := by simp; omega
   obtain ⟨a', m, hxa, hym, hg, hm1, -, ef1, ef2⟩ := ex_facts x hy
   have HX := Lib.hid (exX_eq x ef1 ef2)
   have HU : Hid (exU x y = exX x y) := by unfold Hid exU; rw [if_neg hy]
   have HV : Hid (exV x y = (exG x y - x * exX x y).fdiv y) := by unfold Hid exV; rw [if_neg hy]
   have HEF1 := Lib.hid ef1
   have HEF2 := Lib.hid ef2
   have LUU := exU_lim (x := x) (show 1 ≤ 64 by omega) LY
   rw [HU.out] at LUU
   obtain ⟨g, hge⟩ : ∃ g : Nat, exG x y = g := ⟨_, rfl⟩
   have HGE := Lib.hid hge
   rw [hge] at hg HEF1 HEF2 LG hym i7 HV
   have LM : Lim 64 (m : Int) := LY.le_abs2 (by
    have h1 : (1 : Int) * m ≤ g * m := Int.mul_le_mul_of_nonneg_right (by omega) (by omega)
    rw [← hym] at h1
    rw [Int.natAbs_natCast]
    omega)
   have hgz : (g : Int) ≠ 0 := by omega
   have hmz : (m : Int) ≠ 0 := by omega
   have LA : Lim 65 a' := by rw [← HEF1.out]; exact LX.fdiv _
   have hc0 := Int.fmod_nonneg_of_pos a' (show (0 : Int) < m by omega)
   have hc1 := Int.fmod_lt_of_pos a' (show (0 : Int) < m by omega)
   obtain ⟨cc, hcc⟩ : ∃ cc : Nat, a'.fmod m = cc := ⟨(a'.fmod m).toNat, by omega⟩
   rw [hcc] at hc0 hc1 HX
   rw [Int.toNat_natCast] at HX
   have HCC := Lib.hid hcc
   have HI := Lib.hid (InvP.start (c := cc) hm1)
   generalize invN m cc 0 1 = T at *
   obtain ⟨xx, hxx⟩ : ∃ xx, exX x y = xx := ⟨_, rfl⟩
   rw [hxx] at HX HU HV LUU
   clear hxx hxa hym ef1 ef2 hge hcc hz3 hg0 HGC
   go_upto_region 5 with (fail)
   clear o30 o31
   go_upto_region 5 with (fail)
   go_cut [8, 9] (fun v8 v9 wz => ∃ gz8 gz9 : Nat, v8 = .pointer (some ⟨gz8, 0, none⟩) ∧ v9 = .pointer (some ⟨gz9, 0, none⟩) ∧ X3.heap.size ≤ gz8 ∧ X3.heap.size ≤ gz9 ∧ gz8 ≠ gz9 ∧ Hid (Bx wz gz8 ((m : Int)) ∧ Bx wz gz9 ((y.natAbs : Int).fmod (g : Int)) ∧ Below X3.heap.size X3 wz))
   case first =>
    as_aux_lemma =>
     refine wp_region_held_drew (S := fun w' => Below X3.heap.size X3 w') (by kernel_rfl) (bdrew X3) (fun _ => ?_)
     have hS : Below X3.heap.size X3 X3.drew := bdrew X3
     generalize X3.drew = u0 at hS ⊢
     refine wpAnyH_take (i := 0) (oi := ⟨_, _, _, _, _, _⟩) (v := ?_) rfl (by kernel_rfl) (by kernel_rfl) (by kernel_rfl) (fun _ _ _ h => h) (Or.inl ⟨by rfl, ?_⟩) hS ?_
     rotate_left
     ·intro w' hS'; have p' := p3.call hS'; have c0 := p'.cell0; have c1 := p'.cell1; (first | (go_simp; done) | (go_simp; with_reducible rfl) | with_reducible rfl)
     (try simp only [Act.put, List.setIfInBounds_toArray, List.set_cons_zero, List.set_cons_succ])
     refine wpAnyH_take (i := 2) (oi := ⟨_, _, _, _, _, _⟩) (v := ?_) rfl (by kernel_rfl) (by kernel_rfl) (by kernel_rfl) (fun _ _ _ h => h) (Or.inl ⟨by rfl, ?_⟩) hS ?_
     rotate_left
     ·intro w' hS'; have p' := p7.call hS'; have c0 := p'.cell0; have c1 := p'.cell1; (first | (go_simp; done) | (go_simp; with_reducible rfl) | with_reducible rfl)
     (try simp only [Act.put, List.setIfInBounds_toArray, List.set_cons_zero, List.set_cons_succ])
     refine wpAnyH_ready (rs := [1, 8, 9]) (by kernel_rfl) (by simp) ?_
     refine AllReadyH.cons (o := ⟨_, _, _, _, _, _⟩) rfl (fun K hK => ?_) (AllReadyH.cons (o := ⟨_, _, _, _, _, _⟩) rfl (fun K hK => ?_) (AllReadyH.cons (o := ⟨_, _, _, _, _, _⟩) rfl (fun K hK => ?_) AllReadyH.nil))
     ·go_simp
      refine (refAbs_any _ (i3.call hS).any (by omega)).mono ?_
      rintro e u1 ⟨t2, B2, m2, e2, rfl, j2, d1⟩
      replace hS := bthen hS d1
      first | (with_reducible refine hK.out _ _ hS (fun _ => ?_)) | (go_wp2_with fail; with_reducible refine hK.out _ _ hS (fun _ => ?_))
      clear hK K
      (try simp only [Act.put, List.setIfInBounds_toArray, List.set_cons_zero, List.set_cons_succ])
      refine wpAnyH_ready (rs := [3, 8, 9]) (by kernel_rfl) (by simp) ?_
      refine AllReadyH.cons (o := ⟨_, _, _, _, _, _⟩) rfl (fun K hK => ?_) (AllReadyH.cons (o := ⟨_, _, _, _, _, _⟩) rfl (fun K hK => ?_) (AllReadyH.cons (o := ⟨_, _, _, _, _, _⟩) rfl (fun K hK => ?_) AllReadyH.nil))
      ·go_simp
       refine (refDivMod_ne _ j2.any (i7.call hS).any (Nat.le_trans (j2.len LY.abs) (by omega)) (by omega) hgz).mono ?_
       rintro e u2 ⟨t3, B3, m3, e3, t4, B4, m4, e4, rfl, j3, j4, d2⟩
       replace hS := bthen hS d2
       (replace j2 := j2.call d2)
       first | (with_reducible refine hK.out _ _ hS (fun _ => ?_)) | (go_wp2_with fail; with_reducible refine hK.out _ _ hS (fun _ => ?_))
       clear hK K
       rw [HEF2.out] at j3
       (try simp only [Act.put, List.setIfInBounds_toArray, List.set_cons_zero, List.set_cons_succ])
       refine wpAnyH_take (i := 4) (oi := ⟨_, _, _, _, _, _⟩) (v := ?_) rfl (by kernel_rfl) (by kernel_rfl) (by kernel_rfl) (fun _ _ _ h => h) (Or.inl ⟨by rfl, ?_⟩) hS ?_
       rotate_left
       ·intro w' hS'; (first | (go_simp; done) | (go_simp; with_reducible rfl) | with_reducible rfl)
       (try simp only [Act.put, List.setIfInBounds_toArray, List.set_cons_zero, List.set_cons_succ])
       refine wpAnyH_take (i := 5) (oi := ⟨_, _, _, _, _, _⟩) (v := ?_) rfl (by kernel_rfl) (by kernel_rfl) (by kernel_rfl) (fun _ _ _ h => h) (Or.inl ⟨by rfl, ?_⟩) hS ?_
       rotate_left
       ·intro w' hS'; (first | (go_simp; done) | (go_simp; with_reducible rfl) | with_reducible rfl)
       (try simp only [Act.put, List.setIfInBounds_toArray, List.set_cons_zero, List.set_cons_succ])
       refine wpAnyH_take (i := 6) (oi := ⟨_, _, _, _, _, _⟩) (v := ?_) rfl (by kernel_rfl) (by kernel_rfl) (by kernel_rfl) (fun _ _ _ h => h) (Or.inl ⟨by rfl, ?_⟩) hS ?_
       rotate_left
       ·intro w' hS'; (first | (go_simp; done) | (go_simp; with_reducible rfl) | with_reducible rfl)
       (try simp only [Act.put, List.setIfInBounds_toArray, List.set_cons_zero, List.set_cons_succ])
       refine wpAnyH_take (i := 7) (oi := ⟨_, _, _, _, _, _⟩) (v := ?_) rfl (by kernel_rfl) (by kernel_rfl) (by kernel_rfl) (fun _ _ _ h => h) (Or.inl ⟨by rfl, ?_⟩) hS ?_
       rotate_left
       ·intro w' hS'; (first | (go_simp; done) | (go_simp; with_reducible rfl) | with_reducible rfl)
       (try simp only [Act.put, List.setIfInBounds_toArray, List.set_cons_zero, List.set_cons_succ])
       refine wpAnyH_ready (rs := [8, 9]) (by kernel_rfl) (by simp) ?_
       refine AllReadyH.cons (o := ⟨_, _, _, _, _, _⟩) rfl (fun K hK => ?_) (AllReadyH.cons (o := ⟨_, _, _, _, _, _⟩) rfl (fun K hK => ?_) AllReadyH.nil)
       ·go_simp
        have pz8 := Pr.new u2 false none 0 0
        have az := bone u2 (.cells #[.bool false, .slice none 0 0] 24)
        have hz8 := hS.size
        replace hS := bthen hS az
        (replace j2 := j2.call az); (replace j3 := j3.call az); (replace j4 := j4.call az)
        refine hK.out _ _ hS (fun _ => ?_)
        clear hK K az
        generalize hgz : u2.heap.size = gz8 at hz8 pz8 ⊢
        clear hgz
        generalize u2.alloc (.cells #[.bool false, .slice none 0 0] 24) = u2z8 at *
        (try simp only [Act.put, List.setIfInBounds_toArray, List.set_cons_zero, List.set_cons_succ])
        refine wpAnyH_ready (rs := [9]) (by kernel_rfl) (by simp) ?_
        refine AllReadyH.cons (o := ⟨_, _, _, _, _, _⟩) rfl (fun K hK => ?_) AllReadyH.nil
        go_simp
        have pz9 := Pr.new u2z8 false none 0 0
        have az := bone u2z8 (.cells #[.bool false, .slice none 0 0] 24)
        have hz9 := hS.size
        have lt8_9 := pz8.lt
        replace hS := bthen hS az
        (replace j2 := j2.call az); (replace j3 := j3.call az); (replace j4 := j4.call az); (replace pz8 := pz8.call az)
        refine hK.out _ _ hS (fun _ => ?_)
        clear hK K az
        generalize hgz : u2z8.heap.size = gz9 at hz9 pz9 ⊢ lt8_9
        clear hgz
        generalize u2z8.alloc (.cells #[.bool false, .slice none 0 0] 24) = u2z8z9 at *
        (try simp only [Act.put, List.setIfInBounds_toArray, List.set_cons_zero, List.set_cons_succ])
        refine wpAnyH_ready (rs := [10]) (by kernel_rfl) (by simp) ?_
        refine AllReadyH.cons (o := ⟨_, _, _, _, _, _⟩) rfl (fun K hK => ?_) AllReadyH.nil
        obtain ⟨q0, q1, f0, f1, k0, k1⟩ := pz8.all (.bool t3) (.slice B3 m3 e3)
        go_simp
        replace hS := below_stored hS hz8 (.bool t3) (.slice B3 m3 e3)
        refine hK.out _ _ hS (fun _ => ?_)
        clear hK K q0 q1 f0 f1 k0 k1
        replace j2 := j2.stored pz8 (.bool t3) (.slice B3 m3 e3)
        replace j3 := j3.stored pz8 (.bool t3) (.slice B3 m3 e3)
        replace j4 := j4.stored pz8 (.bool t3) (.slice B3 m3 e3)
        replace pz9 := pz9.far (g' := gz8) (by omega) (.bool t3) (.slice B3 m3 e3)
        replace pz8 := pz8.stored (s' := t3) (A' := B3) (n' := m3) (c' := e3)
        (try simp only [Act.put, List.setIfInBounds_toArray, List.set_cons_zero, List.set_cons_succ])
        refine wpAnyH_ready (rs := [11]) (by kernel_rfl) (by simp) ?_
        refine AllReadyH.cons (o := ⟨_, _, _, _, _, _⟩) rfl (fun K hK => ?_) AllReadyH.nil
        obtain ⟨q0, q1, f0, f1, k0, k1⟩ := pz9.all (.bool t4) (.slice B4 m4 e4)
        go_simp
        replace hS := below_stored hS hz9 (.bool t4) (.slice B4 m4 e4)
        refine hK.out _ _ hS (fun _ => ?_)
        clear hK K q0 q1 f0 f1 k0 k1
        replace j2 := j2.stored pz9 (.bool t4) (.slice B4 m4 e4)
        replace j3 := j3.stored pz9 (.bool t4) (.slice B4 m4 e4)
        replace j4 := j4.stored pz9 (.bool t4) (.slice B4 m4 e4)
        replace pz8 := pz8.far (g' := gz9) (by omega) (.bool t4) (.slice B4 m4 e4)
        replace pz9 := pz9.stored (s' := t4) (A' := B4) (n' := m4) (c' := e4)
        (try simp only [Act.put, List.setIfInBounds_toArray, List.set_cons_zero, List.set_cons_succ])
        refine wpAnyH_take (i := 12) (oi := ⟨_, _, _, _, _, _⟩) (v := ?_) rfl (by kernel_rfl) (by kernel_rfl) (by kernel_rfl) (fun _ _ _ h => h) (Or.inl ⟨by rfl, ?_⟩) hS ?_
        rotate_left
        ·intro w' hS'; (first | (go_simp; done) | (go_simp; with_reducible rfl) | with_reducible rfl)
        (try simp only [Act.put, List.setIfInBounds_toArray, List.set_cons_zero, List.set_cons_succ])
        refine wpAnyH_done (by kernel_rfl) ?_ _
        go_wp2_with fail
        go_meet
        case rel => exact ⟨gz8, gz9, rfl, rfl, hz8, hz9, by omega, ⟨_, _, _, _, pz8, j3⟩, ⟨_, _, _, _, pz9, j4⟩, hS⟩
       ·go_simp
        have pz9 := Pr.new u2 false none 0 0
        have az := bone u2 (.cells #[.bool false, .slice none 0 0] 24)
        have hz9 := hS.size
        replace hS := bthen hS az
        (replace j2 := j2.call az); (replace j3 := j3.call az); (replace j4 := j4.call az)
        refine hK.out _ _ hS (fun _ => ?_)
        clear hK K az
        generalize hgz : u2.heap.size = gz9 at hz9 pz9 ⊢
        clear hgz
        generalize u2.alloc (.cells #[.bool false, .slice none 0 0] 24) = u2z9 at *
        (try simp only [Act.put, List.setIfInBounds_toArray, List.set_cons_zero, List.set_cons_succ])
        refine wpAnyH_ready (rs := [8]) (by kernel_rfl) (by simp) ?_
        refine AllReadyH.cons (o := ⟨_, _, _, _, _, _⟩) rfl (fun K hK => ?_) AllReadyH.nil
        go_simp
        have pz8 := Pr.new u2z9 false none 0 0
        have az := bone u2z9 (.cells #[.bool false, .slice none 0 0] 24)
        have hz8 := hS.size
        have lt9_8 := pz9.lt
        replace hS := bthen hS az
        (replace j2 := j2.call az); (replace j3 := j3.call az); (replace j4 := j4.call az); (replace pz9 := pz9.call az)
        refine hK.out _ _ hS (fun _ => ?_)
        clear hK K az
        generalize hgz : u2z9.heap.size = gz8 at hz8 pz8 ⊢ lt9_8
        clear hgz
        generalize u2z9.alloc (.cells #[.bool false, .slice none 0 0] 24) = u2z9z8 at *
        (try simp only [Act.put, List.setIfInBounds_toArray, List.set_cons_zero, List.set_cons_succ])
        refine wpAnyH_ready (rs := [10]) (by kernel_rfl) (by simp) ?_
        refine AllReadyH.cons (o := ⟨_, _, _, _, _, _⟩) rfl (fun K hK => ?_) AllReadyH.nil
        obtain ⟨q0, q1, f0, f1, k0, k1⟩ := pz8.all (.bool t3) (.slice B3 m3 e3)
        go_simp
        replace hS := below_stored hS hz8 (.bool t3) (.slice B3 m3 e3)
        refine hK.out _ _ hS (fun _ => ?_)
        clear hK K q0 q1 f0 f1 k0 k1
        replace j2 := j2.stored pz8 (.bool t3) (.slice B3 m3 e3)
        replace j3 := j3.stored pz8 (.bool t3) (.slice B3 m3 e3)
        replace j4 := j4.stored pz8 (.bool t3) (.slice B3 m3 e3)
        replace pz9 := pz9.far (g' := gz8) (by omega) (.bool t3) (.slice B3 m3 e3)
        replace pz8 := pz8.stored (s' := t3) (A' := B3) (n' := m3) (c' := e3)
        (try simp only [Act.put, List.setIfInBounds_toArray, List.set_cons_zero, List.set_cons_succ])
        refine wpAnyH_ready (rs := [11]) (by kernel_rfl) (by simp) ?_
        refine AllReadyH.cons (o := ⟨_, _, _, _, _, _⟩) rfl (fun K hK => ?_) AllReadyH.nil
        obtain ⟨q0, q1, f0, f1, k0, k1⟩ := pz9.all (.bool t4) (.slice B4 m4 e4)
        go_simp
        replace hS := below_stored hS hz9 (.bool t4) (.slice B4 m4 e4)
        refine hK.out _ _ hS (fun _ => ?_)
        clear hK K q0 q1 f0 f1 k0 k1
        replace j2 := j2.stored pz9 (.bool t4) (.slice B4 m4 e4)
        replace j3 := j3.stored pz9 (.bool t4) (.slice B4 m4 e4)
        replace j4 := j4.stored pz9 (.bool t4) (.slice B4 m4 e4)
        replace pz8 := pz8.far (g' := gz9) (by omega) (.bool t4) (.slice B4 m4 e4)
        replace pz9 := pz9.stored (s' := t4) (A' := B4) (n' := m4) (c' := e4)
        (try simp only [Act.put, List.setIfInBounds_toArray, List.set_cons_zero, List.set_cons_succ])
        refine wpAnyH_take (i := 12) (oi := ⟨_, _, _, _, _, _⟩) (v := ?_) rfl (by kernel_rfl) (by kernel_rfl) (by kernel_rfl) (fun _ _ _ h => h) (Or.inl ⟨by rfl, ?_⟩) hS ?_
        rotate_left
        ·intro w' hS'; (first | (go_simp; done) | (go_simp; with_reducible rfl) | with_reducible rfl)
        (try simp only [Act.put, List.setIfInBounds_toArray, List.set_cons_zero, List.set_cons_succ])
        refine wpAnyH_done (by kernel_rfl) ?_ _
        go_wp2_with fail
        go_meet
        case rel => exact ⟨gz8, gz9, rfl, rfl, hz8, hz9, by omega, ⟨_, _, _, _, pz8, j3⟩, ⟨_, _, _, _, pz9, j4⟩, hS⟩
      ·go_simp
       have pz8 := Pr.new u1 false none 0 0
       have az := bone u1 (.cells #[.bool false, .slice none 0 0] 24)
       have hz8 := hS.size
       replace hS := bthen hS az
       (replace j2 := j2.call az)
       refine hK.out _ _ hS (fun _ => ?_)
       clear hK K az
       generalize hgz : u1.heap.size = gz8 at hz8 pz8 ⊢
       clear hgz
       generalize u1.alloc (.cells #[.bool false, .slice none 0 0] 24) = u1z8 at *
       (try simp only [Act.put, List.setIfInBounds_toArray, List.set_cons_zero, List.set_cons_succ])
       refine wpAnyH_ready (rs := [3, 9]) (by kernel_rfl) (by simp) ?_
       refine AllReadyH.cons (o := ⟨_, _, _, _, _, _⟩) rfl (fun K hK => ?_) (AllReadyH.cons (o := ⟨_, _, _, _, _, _⟩) rfl (fun K hK => ?_) AllReadyH.nil)
       ·go_simp
        refine (refDivMod_ne _ j2.any (i7.call hS).any (Nat.le_trans (j2.len LY.abs) (by omega)) (by omega) hgz).mono ?_
        rintro e u2 ⟨t3, B3, m3, e3, t4, B4, m4, e4, rfl, j3, j4, d2⟩
        replace hS := bthen hS d2
        (replace j2 := j2.call d2); (replace pz8 := pz8.call d2)
        first | (with_reducible refine hK.out _ _ hS (fun _ => ?_)) | (go_wp2_with fail; with_reducible refine hK.out _ _ hS (fun _ => ?_))
        clear hK K
        rw [HEF2.out] at j3
        (try simp only [Act.put, List.setIfInBounds_toArray, List.set_cons_zero, List.set_cons_succ])
        refine wpAnyH_take (i := 4) (oi := ⟨_, _, _, _, _, _⟩) (v := ?_) rfl (by kernel_rfl) (by kernel_rfl) (by kernel_rfl) (fun _ _ _ h => h) (Or.inl ⟨by rfl, ?_⟩) hS ?_
        rotate_left
        ·intro w' hS'; (first | (go_simp; done) | (go_simp; with_reducible rfl) | with_reducible rfl)
        (try simp only [Act.put, List.setIfInBounds_toArray, List.set_cons_zero, List.set_cons_succ])
        refine wpAnyH_take (i := 5) (oi := ⟨_, _, _, _, _, _⟩) (v := ?_) rfl (by kernel_rfl) (by kernel_rfl) (by kernel_rfl) (fun _ _ _ h => h) (Or.inl ⟨by rfl, ?_⟩) hS ?_
        rotate_left
        ·intro w' hS'; (first | (go_simp; done) | (go_simp; with_reducible rfl) | with_reducible rfl)
        (try simp only [Act.put, List.setIfInBounds_toArray, List.set_cons_zero, List.set_cons_succ])
        refine wpAnyH_take (i := 6) (oi := ⟨_, _, _, _, _, _⟩) (v := ?_) rfl (by kernel_rfl) (by kernel_rfl) (by kernel_rfl) (fun _ _ _ h => h) (Or.inl ⟨by rfl, ?_⟩) hS ?_
        rotate_left
        ·intro w' hS'; (first | (go_simp; done) | (go_simp; with_reducible rfl) | with_reducible rfl)
        (try simp only [Act.put, List.setIfInBounds_toArray, List.set_cons_zero, List.set_cons_succ])
        refine wpAnyH_take (i := 7) (oi := ⟨_, _, _, _, _, _⟩) (v := ?_) rfl (by kernel_rfl) (by kernel_rfl) (by kernel_rfl) (fun _ _ _ h => h) (Or.inl ⟨by rfl, ?_⟩) hS ?_
        rotate_left
        ·intro w' hS'; (first | (go_simp; done) | (go_simp; with_reducible rfl) | with_reducible rfl)
        (try simp only [Act.put, List.setIfInBounds_toArray, List.set_cons_zero, List.set_cons_succ])
        refine wpAnyH_ready (rs := [9]) (by kernel_rfl) (by simp) ?_
        refine AllReadyH.cons (o := ⟨_, _, _, _, _, _⟩) rfl (fun K hK => ?_) AllReadyH.nil
        go_simp
        have pz9 := Pr.new u2 false none 0 0
        have az := bone u2 (.cells #[.bool false, .slice none 0 0] 24)
        have hz9 := hS.size
        have lt8_9 := pz8.lt
        replace hS := bthen hS az
        (replace j2 := j2.call az); (replace j3 := j3.call az); (replace j4 := j4.call az); (replace pz8 := pz8.call az)
        refine hK.out _ _ hS (fun _ => ?_)
        clear hK K az
        generalize hgz : u2.heap.size = gz9 at hz9 pz9 ⊢ lt8_9
        clear hgz
        generalize u2.alloc (.cells #[.bool false, .slice none 0 0] 24) = u2z9 at *
        (try simp only [Act.put, List.setIfInBounds_toArray, List.set_cons_zero, List.set_cons_succ])
        refine wpAnyH_ready (rs := [10]) (by kernel_rfl) (by simp) ?_
        refine AllReadyH.cons (o := ⟨_, _, _, _, _, _⟩) rfl (fun K hK => ?_) AllReadyH.nil
        obtain ⟨q0, q1, f0, f1, k0, k1⟩ := pz8.all (.bool t3) (.slice B3 m3 e3)
        go_simp
        replace hS := below_stored hS hz8 (.bool t3) (.slice B3 m3 e3)
        refine hK.out _ _ hS (fun _ => ?_)
        clear hK K q0 q1 f0 f1 k0 k1
        replace j2 := j2.stored pz8 (.bool t3) (.slice B3 m3 e3)
        replace j3 := j3.stored pz8 (.bool t3) (.slice B3 m3 e3)
        replace j4 := j4.stored pz8 (.bool t3) (.slice B3 m3 e3)
        replace pz9 := pz9.far (g' := gz8) (by omega) (.bool t3) (.slice B3 m3 e3)
        replace pz8 := pz8.stored (s' := t3) (A' := B3) (n' := m3) (c' := e3)
        (try simp only [Act.put, List.setIfInBounds_toArray, List.set_cons_zero, List.set_cons_succ])
        refine wpAnyH_ready (rs := [11]) (by kernel_rfl) (by simp) ?_
        refine AllReadyH.cons (o := ⟨_, _, _, _, _, _⟩) rfl (fun K hK => ?_) AllReadyH.nil
        obtain ⟨q0, q1, f0, f1, k0, k1⟩ := pz9.all (.bool t4) (.slice B4 m4 e4)
        go_simp
        replace hS := below_stored hS hz9 (.bool t4) (.slice B4 m4 e4)
        refine hK.out _ _ hS (fun _ => ?_)
        clear hK K q0 q1 f0 f1 k0 k1
        replace j2 := j2.stored pz9 (.bool t4) (.slice B4 m4 e4)
        replace j3 := j3.stored pz9 (.bool t4) (.slice B4 m4 e4)
        replace j4 := j4.stored pz9 (.bool t4) (.slice B4 m4 e4)
        replace pz8 := pz8.far (g' := gz9) (by omega) (.bool t4) (.slice B4 m4 e4)
        replace pz9 := pz9.stored (s' := t4) (A' := B4) (n' := m4) (c' := e4)
        (try simp only [Act.put, List.setIfInBounds_toArray, List.set_cons_zero, List.set_cons_succ])
        refine wpAnyH_take (i := 12) (oi := ⟨_, _, _, _, _, _⟩) (v := ?_) rfl (by kernel_rfl) (by kernel_rfl) (by kernel_rfl) (fun _ _ _ h => h) (Or.inl ⟨by rfl, ?_⟩) hS ?_
        rotate_left
        ·intro w' hS'; (first | (go_simp; done) | (go_simp; with_reducible rfl) | with_reducible rfl)
        (try simp only [Act.put, List.setIfInBounds_toArray, List.set_cons_zero, List.set_cons_succ])
        refine wpAnyH_done (by kernel_rfl) ?_ _
        go_wp2_with fail
        go_meet
        case rel => exact ⟨gz8, gz9, rfl, rfl, hz8, hz9, by omega, ⟨_, _, _, _, pz8, j3⟩, ⟨_, _, _, _, pz9, j4⟩, hS⟩
       ·go_simp
        have pz9 := Pr.new u1z8 false none 0 0
        have az := bone u1z8 (.cells #[.bool false, .slice none 0 0] 24)
        have hz9 := hS.size
        have lt8_9 := pz8.lt
        replace hS := bthen hS az
        (replace j2 := j2.call az); (replace pz8 := pz8.call az)
        refine hK.out _ _ hS (fun _ => ?_)
        clear hK K az
        generalize hgz : u1z8.heap.size = gz9 at hz9 pz9 ⊢ lt8_9
        clear hgz
        generalize u1z8.alloc (.cells #[.bool false, .slice none 0 0] 24) = u1z8z9 at *
        (try simp only [Act.put, List.setIfInBounds_toArray, List.set_cons_zero, List.set_cons_succ])
        refine wpAnyH_ready (rs := [3]) (by kernel_rfl) (by simp) ?_
        refine AllReadyH.cons (o := ⟨_, _, _, _, _, _⟩) rfl (fun K hK => ?_) AllReadyH.nil
        go_simp
        refine (refDivMod_ne _ j2.any (i7.call hS).any (Nat.le_trans (j2.len LY.abs) (by omega)) (by omega) hgz).mono ?_
        rintro e u2 ⟨t3, B3, m3, e3, t4, B4, m4, e4, rfl, j3, j4, d2⟩
        replace hS := bthen hS d2
        (replace j2 := j2.call d2); (replace pz8 := pz8.call d2); (replace pz9 := pz9.call d2)
        first | (with_reducible refine hK.out _ _ hS (fun _ => ?_)) | (go_wp2_with fail; with_reducible refine hK.out _ _ hS (fun _ => ?_))
        clear hK K
        rw [HEF2.out] at j3
        (try simp only [Act.put, List.setIfInBounds_toArray, List.set_cons_zero, List.set_cons_succ])
        refine wpAnyH_take (i := 4) (oi := ⟨_, _, _, _, _, _⟩) (v := ?_) rfl (by kernel_rfl) (by kernel_rfl) (by kernel_rfl) (fun _ _ _ h => h) (Or.inl ⟨by rfl, ?_⟩) hS ?_
        rotate_left
        ·intro w' hS'; (first | (go_simp; done) | (go_simp; with_reducible rfl) | with_reducible rfl)
        (try simp only [Act.put, List.setIfInBounds_toArray, List.set_cons_zero, List.set_cons_succ])
        refine wpAnyH_take (i := 5) (oi := ⟨_, _, _, _, _, _⟩) (v := ?_) rfl (by kernel_rfl) (by kernel_rfl) (by kernel_rfl) (fun _ _ _ h => h) (Or.inl ⟨by rfl, ?_⟩) hS ?_
        rotate_left
        ·intro w' hS'; (first | (go_simp; done) | (go_simp; with_reducible rfl) | with_reducible rfl)
        (try simp only [Act.put, List.setIfInBounds_toArray, List.set_cons_zero, List.set_cons_succ])
        refine wpAnyH_take (i := 6) (oi := ⟨_, _, _, _, _, _⟩) (v := ?_) rfl (by kernel_rfl) (by kernel_rfl) (by kernel_rfl) (fun _ _ _ h => h) (Or.inl ⟨by rfl, ?_⟩) hS ?_
        rotate_left
        ·intro w' hS'; (first | (go_simp; done) | (go_simp; with_reducible rfl) | with_reducible rfl)
        (try simp only [Act.put, List.setIfInBounds_toArray, List.set_cons_zero, List.set_cons_succ])
        refine wpAnyH_take (i := 7) (oi := ⟨_, _, _, _, _, _⟩) (v := ?_) rfl (by kernel_rfl) (by kernel_rfl) (by kernel_rfl) (fun _ _ _ h => h) (Or.inl ⟨by rfl, ?_⟩) hS ?_
        rotate_left
        ·intro w' hS'; (first | (go_simp; done) | (go_simp; with_reducible rfl) | with_reducible rfl)
        (try simp only [Act.put, List.setIfInBounds_toArray, List.set_cons_zero, List.set_cons_succ])
        refine wpAnyH_ready (rs := [10]) (by kernel_rfl) (by simp) ?_
        refine AllReadyH.cons (o := ⟨_, _, _, _, _, _⟩) rfl (fun K hK => ?_) AllReadyH.nil
        obtain ⟨q0, q1, f0, f1, k0, k1⟩ := pz8.all (.bool t3) (.slice B3 m3 e3)
        go_simp
        replace hS := below_stored hS hz8 (.bool t3) (.slice B3 m3 e3)
        refine hK.out _ _ hS (fun _ => ?_)
        clear hK K q0 q1 f0 f1 k0 k1
        replace j2 := j2.stored pz8 (.bool t3) (.slice B3 m3 e3)
        replace j3 := j3.stored pz8 (.bool t3) (.slice B3 m3 e3)
        replace j4 := j4.stored pz8 (.bool t3) (.slice B3 m3 e3)
        replace pz9 := pz9.far (g' := gz8) (by omega) (.bool t3) (.slice B3 m3 e3)
        replace pz8 := pz8.stored (s' := t3) (A' := B3) (n' := m3) (c' := e3)
        (try simp only [Act.put, List.setIfInBounds_toArray, List.set_cons_zero, List.set_cons_succ])
        refine wpAnyH_ready (rs := [11]) (by kernel_rfl) (by simp) ?_
        refine AllReadyH.cons (o := ⟨_, _, _, _, _, _⟩) rfl (fun K hK => ?_) AllReadyH.nil
        obtain ⟨q0, q1, f0, f1, k0, k1⟩ := pz9.all (.bool t4) (.slice B4 m4 e4)
        go_simp
        replace hS := below_stored hS hz9 (.bool t4) (.slice B4 m4 e4)
        refine hK.out _ _ hS (fun _ => ?_)
        clear hK K q0 q1 f0 f1 k0 k1
        replace j2 := j2.stored pz9 (.bool t4) (.slice B4 m4 e4)
        replace j3 := j3.stored pz9 (.bool t4) (.slice B4 m4 e4)
        replace j4 := j4.stored pz9 (.bool t4) (.slice B4 m4 e4)
        replace pz8 := pz8.far (g' := gz9) (by omega) (.bool t4) (.slice B4 m4 e4)
        replace pz9 := pz9.stored (s' := t4) (A' := B4) (n' := m4) (c' := e4)
        (try simp only [Act.put, List.setIfInBounds_toArray, List.set_cons_zero, List.set_cons_succ])
        refine wpAnyH_take (i := 12) (oi := ⟨_, _, _, _, _, _⟩) (v := ?_) rfl (by kernel_rfl) (by kernel_rfl) (by kernel_rfl) (fun _ _ _ h => h) (Or.inl ⟨by rfl, ?_⟩) hS ?_
        rotate_left
        ·intro w' hS'; (first | (go_simp; done) | (go_simp; with_reducible rfl) | with_reducible rfl)
        (try simp only [Act.put, List.setIfInBounds_toArray, List.set_cons_zero, List.set_cons_succ])
        refine wpAnyH_done (by kernel_rfl) ?_ _
        go_wp2_with fail
        go_meet
        case rel => exact ⟨gz8, gz9, rfl, rfl, hz8, hz9, by omega, ⟨_, _, _, _, pz8, j3⟩, ⟨_, _, _, _, pz9, j4⟩, hS⟩
      ·go_simp
       have pz9 := Pr.new u1 false none 0 0
       have az := bone u1 (.cells #[.bool false, .slice none 0 0] 24)
       have hz9 := hS.size
       replace hS := bthen hS az
       (replace j2 := j2.call az)
       refine hK.out _ _ hS (fun _ => ?_)
       clear hK K az
       generalize hgz : u1.heap.size = gz9 at hz9 pz9 ⊢
       clear hgz
       generalize u1.alloc (.cells #[.bool false, .slice none 0 0] 24) = u1z9 at *
       (try simp only [Act.put, List.setIfInBounds_toArray, List.set_cons_zero, List.set_cons_succ])
       refine wpAnyH_ready (rs := [3, 8]) (by kernel_rfl) (by simp) ?_
       refine AllReadyH.cons (o := ⟨_, _, _, _, _, _⟩) rfl (fun K hK => ?_) (AllReadyH.cons (o := ⟨_, _, _, _, _, _⟩) rfl (fun K hK => ?_) AllReadyH.nil)
       ·go_simp
        refine (refDivMod_ne _ j2.any (i7.call hS).any (Nat.le_trans (j2.len LY.abs) (by omega)) (by omega) hgz).mono ?_
        rintro e u2 ⟨t3, B3, m3, e3, t4, B4, m4, e4, rfl, j3, j4, d2⟩
        replace hS := bthen hS d2
        (replace j2 := j2.call d2); (replace pz9 := pz9.call d2)
        first | (with_reducible refine hK.out _ _ hS (fun _ => ?_)) | (go_wp2_with fail; with_reducible refine hK.out _ _ hS (fun _ => ?_))
        clear hK K
        rw [HEF2.out] at j3
        (try simp only [Act.put, List.setIfInBounds_toArray, List.set_cons_zero, List.set_cons_succ])
        refine wpAnyH_take (i := 4) (oi := ⟨_, _, _, _, _, _⟩) (v := ?_) rfl (by kernel_rfl) (by kernel_rfl) (by kernel_rfl) (fun _ _ _ h => h) (Or.inl ⟨by rfl, ?_⟩) hS ?_
        rotate_left
        ·intro w' hS'; (first | (go_simp; done) | (go_simp; with_reducible rfl) | with_reducible rfl)
        (try simp only [Act.put, List.setIfInBounds_toArray, List.set_cons_zero, List.set_cons_succ])
        refine wpAnyH_take (i := 5) (oi := ⟨_, _, _, _, _, _⟩) (v := ?_) rfl (by kernel_rfl) (by kernel_rfl) (by kernel_rfl) (fun _ _ _ h => h) (Or.inl ⟨by rfl, ?_⟩) hS ?_
        rotate_left
        ·intro w' hS'; (first | (go_simp; done) | (go_simp; with_reducible rfl) | with_reducible rfl)
        (try simp only [Act.put, List.setIfInBounds_toArray, List.set_cons_zero, List.set_cons_succ])
        refine wpAnyH_take (i := 6) (oi := ⟨_, _, _, _, _, _⟩) (v := ?_) rfl (by kernel_rfl) (by kernel_rfl) (by kernel_rfl) (fun _ _ _ h => h) (Or.inl ⟨by rfl, ?_⟩) hS ?_
        rotate_left
        ·intro w' hS'; (first | (go_simp; done) | (go_simp; with_reducible rfl) | with_reducible rfl)
        (try simp only [Act.put, List.setIfInBounds_toArray, List.set_cons_zero, List.set_cons_succ])
        refine wpAnyH_take (i := 7) (oi := ⟨_, _, _, _, _, _⟩) (v := ?_) rfl (by kernel_rfl) (by kernel_rfl) (by kernel_rfl) (fun _ _ _ h => h) (Or.inl ⟨by rfl, ?_⟩) hS ?_
        rotate_left
        ·intro w' hS'; (first | (go_simp; done) | (go_simp; with_reducible rfl) | with_reducible rfl)
        (try simp only [Act.put, List.setIfInBounds_toArray, List.set_cons_zero, List.set_cons_succ])
        refine wpAnyH_ready (rs := [8]) (by kernel_rfl) (by simp) ?_
        refine AllReadyH.cons (o := ⟨_, _, _, _, _, _⟩) rfl (fun K hK => ?_) AllReadyH.nil
        go_simp
        have pz8 := Pr.new u2 false none 0 0
        have az := bone u2 (.cells #[.bool false, .slice none 0 0] 24)
        have hz8 := hS.size
        have lt9_8 := pz9.lt
        replace hS := bthen hS az
        (replace j2 := j2.call az); (replace j3 := j3.call az); (replace j4 := j4.call az); (replace pz9 := pz9.call az)
        refine hK.out _ _ hS (fun _ => ?_)
        clear hK K az
        generalize hgz : u2.heap.size = gz8 at hz8 pz8 ⊢ lt9_8
        clear hgz
        generalize u2.alloc (.cells #[.bool false, .slice none 0 0] 24) = u2z8 at *
        (try simp only [Act.put, List.setIfInBounds_toArray, List.set_cons_zero, List.set_cons_succ])
        refine wpAnyH_ready (rs := [10]) (by kernel_rfl) (by simp) ?_
        refine AllReadyH.cons (o := ⟨_, _, _, _, _, _⟩) rfl (fun K hK => ?_) AllReadyH.nil
        obtain ⟨q0, q1, f0, f1, k0, k1⟩ := pz8.all (.bool t3) (.slice B3 m3 e3)
        go_simp
        replace hS := below_stored hS hz8 (.bool t3) (.slice B3 m3 e3)
        refine hK.out _ _ hS (fun _ => ?_)
        clear hK K q0 q1 f0 f1 k0 k1
        replace j2 := j2.stored pz8 (.bool t3) (.slice B3 m3 e3)
        replace j3 := j3.stored pz8 (.bool t3) (.slice B3 m3 e3)
        replace j4 := j4.stored pz8 (.bool t3) (.slice B3 m3 e3)
        replace pz9 := pz9.far (g' := gz8) (by omega) (.bool t3) (.slice B3 m3 e3)
        replace pz8 := pz8.stored (s' := t3) (A' := B3) (n' := m3) (c' := e3)
        (try simp only [Act.put, List.setIfInBounds_toArray, List.set_cons_zero, List.set_cons_succ])
        refine wpAnyH_ready (rs := [11]) (by kernel_rfl) (by simp) ?_
        refine AllReadyH.cons (o := ⟨_, _, _, _, _, _⟩) rfl (fun K hK => ?_) AllReadyH.nil
        obtain ⟨q0, q1, f0, f1, k0, k1⟩ := pz9.all (.bool t4) (.slice B4 m4 e4)
        go_simp
        replace hS := below_stored hS hz9 (.bool t4) (.slice B4 m4 e4)
        refine hK.out _ _ hS (fun _ => ?_)
        clear hK K q0 q1 f0 f1 k0 k1
        replace j2 := j2.stored pz9 (.bool t4) (.slice B4 m4 e4)
        replace j3 := j3.stored pz9 (.bool t4) (.slice B4 m4 e4)
        replace j4 := j4.stored pz9 (.bool t4) (.slice B4 m4 e4)
        replace pz8 := pz8.far (g' := gz9) (by omega) (.bool t4) (.slice B4 m4 e4)
        replace pz9 := pz9.stored (s' := t4) (A' := B4) (n' := m4) (c' := e4)
        (try simp only [Act.put, List.setIfInBounds_toArray, List.set_cons_zero, List.set_cons_succ])
        refine wpAnyH_take (i := 12) (oi := ⟨_, _, _, _, _, _⟩) (v := ?_) rfl (by kernel_rfl) (by kernel_rfl) (by kernel_rfl) (fun _ _ _ h => h) (Or.inl ⟨by rfl, ?_⟩) hS ?_
        rotate_left
        ·intro w' hS'; (first | (go_simp; done) | (go_simp; with_reducible rfl) | with_reducible rfl)
        (try simp only [Act.put, List.setIfInBounds_toArray, List.set_cons_zero, List.set_cons_succ])
        refine wpAnyH_done (by kernel_rfl) ?_ _
        go_wp2_with fail
        go_meet
        case rel => exact ⟨gz8, gz9, rfl, rfl, hz8, hz9, by omega, ⟨_, _, _, _, pz8, j3⟩, ⟨_, _, _, _, pz9, j4⟩, hS⟩
       ·go_simp
        have pz8 := Pr.new u1z9 false none 0 0
        have az := bone u1z9 (.cells #[.bool false, .slice none 0 0] 24)
        have hz8 := hS.size
        have lt9_8 := pz9.lt
        replace hS := bthen hS az
        (replace j2 := j2.call az); (replace pz9 := pz9.call az)
        refine hK.out _ _ hS (fun _ => ?_)
        clear hK K az
        generalize hgz : u1z9.heap.size = gz8 at hz8 pz8 ⊢ lt9_8
        clear hgz
        generalize u1z9.alloc (.cells #[.bool false, .slice none 0 0] 24) = u1z9z8 at *
        (try simp only [Act.put, List.setIfInBounds_toArray, List.set_cons_zero, List.set_cons_succ])
        refine wpAnyH_ready (rs := [3]) (by kernel_rfl) (by simp) ?_
        refine AllReadyH.cons (o := ⟨_, _, _, _, _, _⟩) rfl (fun K hK => ?_) AllReadyH.nil
        go_simp
        refine (refDivMod_ne _ j2.any (i7.call hS).any (Nat.le_trans (j2.len LY.abs) (by omega)) (by omega) hgz).mono ?_
        rintro e u2 ⟨t3, B3, m3, e3, t4, B4, m4, e4, rfl, j3, j4, d2⟩
        replace hS := bthen hS d2
        (replace j2 := j2.call d2); (replace pz9 := pz9.call d2); (replace pz8 := pz8.call d2)
        first | (with_reducible refine hK.out _ _ hS (fun _ => ?_)) | (go_wp2_with fail; with_reducible refine hK.out _ _ hS (fun _ => ?_))
        clear hK K
        rw [HEF2.out] at j3
        (try simp only [Act.put, List.setIfInBounds_toArray, List.set_cons_zero, List.set_cons_succ])
        refine wpAnyH_take (i := 4) (oi := ⟨_, _, _, _, _, _⟩) (v := ?_) rfl (by kernel_rfl) (by kernel_rfl) (by kernel_rfl) (fun _ _ _ h => h) (Or.inl ⟨by rfl, ?_⟩) hS ?_
        rotate_left
        ·intro w' hS'; (first | (go_simp; done) | (go_simp; with_reducible rfl) | with_reducible rfl)
        (try simp only [Act.put, List.setIfInBounds_toArray, List.set_cons_zero, List.set_cons_succ])
        refine wpAnyH_take (i := 5) (oi := ⟨_, _, _, _, _, _⟩) (v := ?_) rfl (by kernel_rfl) (by kernel_rfl) (by kernel_rfl) (fun _ _ _ h => h) (Or.inl ⟨by rfl, ?_⟩) hS ?_
        rotate_left
        ·intro w' hS'; (first | (go_simp; done) | (go_simp; with_reducible rfl) | with_reducible rfl)
        (try simp only [Act.put, List.setIfInBounds_toArray, List.set_cons_zero, List.set_cons_succ])
        refine wpAnyH_take (i := 6) (oi := ⟨_, _, _, _, _, _⟩) (v := ?_) rfl (by kernel_rfl) (by kernel_rfl) (by kernel_rfl) (fun _ _ _ h => h) (Or.inl ⟨by rfl, ?_⟩) hS ?_
        rotate_left
        ·intro w' hS'; (first | (go_simp; done) | (go_simp; with_reducible rfl) | with_reducible rfl)
        (try simp only [Act.put, List.setIfInBounds_toArray, List.set_cons_zero, List.set_cons_succ])
        refine wpAnyH_take (i := 7) (oi := ⟨_, _, _, _, _, _⟩) (v := ?_) rfl (by kernel_rfl) (by kernel_rfl) (by kernel_rfl) (fun _ _ _ h => h) (Or.inl ⟨by rfl, ?_⟩) hS ?_
        rotate_left
        ·intro w' hS'; (first | (go_simp; done) | (go_simp; with_reducible rfl) | with_reducible rfl)
        (try simp only [Act.put, List.setIfInBounds_toArray, List.set_cons_zero, List.set_cons_succ])
        refine wpAnyH_ready (rs := [10]) (by kernel_rfl) (by simp) ?_
        refine AllReadyH.cons (o := ⟨_, _, _, _, _, _⟩) rfl (fun K hK => ?_) AllReadyH.nil
        obtain ⟨q0, q1, f0, f1, k0, k1⟩ := pz8.all (.bool t3) (.slice B3 m3 e3)
        go_simp
        replace hS := below_stored hS hz8 (.bool t3) (.slice B3 m3 e3)
        refine hK.out _ _ hS (fun _ => ?_)
        clear hK K q0 q1 f0 f1 k0 k1
        replace j2 := j2.stored pz8 (.bool t3) (.slice B3 m3 e3)
        replace j3 := j3.stored pz8 (.bool t3) (.slice B3 m3 e3)
        replace j4 := j4.stored pz8 (.bool t3) (.slice B3 m3 e3)
        replace pz9 := pz9.far (g' := gz8) (by omega) (.bool t3) (.slice B3 m3 e3)
        replace pz8 := pz8.stored (s' := t3) (A' := B3) (n' := m3) (c' := e3)
        (try simp only [Act.put, List.setIfInBounds_toArray, List.set_cons_zero, List.set_cons_succ])
        refine wpAnyH_ready (rs := [11]) (by kernel_rfl) (by simp) ?_
        refine AllReadyH.cons (o := ⟨_, _, _, _, _, _⟩) rfl (fun K hK => ?_) AllReadyH.nil
        obtain ⟨q0, q1, f0, f1, k0, k1⟩ := pz9.all (.bool t4) (.slice B4 m4 e4)
        go_simp
        replace hS := below_stored hS hz9 (.bool t4) (.slice B4 m4 e4)
        refine hK.out _ _ hS (fun _ => ?_)
        clear hK K q0 q1 f0 f1 k0 k1
        replace j2 := j2.stored pz9 (.bool t4) (.slice B4 m4 e4)
        replace j3 := j3.stored pz9 (.bool t4) (.slice B4 m4 e4)
        replace j4 := j4.stored pz9 (.bool t4) (.slice B4 m4 e4)
        replace pz8 := pz8.far (g' := gz9) (by omega) (.bool t4) (.slice B4 m4 e4)
        replace pz9 := pz9.stored (s' := t4) (A' := B4) (n' := m4) (c' := e4)
        (try simp only [Act.put, List.setIfInBounds_toArray, List.set_cons_zero, List.set_cons_succ])
        refine wpAnyH_take (i := 12) (oi := ⟨_, _, _, _, _, _⟩) (v := ?_) rfl (by kernel_rfl) (by kernel_rfl) (by kernel_rfl) (fun _ _ _ h => h) (Or.inl ⟨by rfl, ?_⟩) hS ?_
        rotate_left
        ·intro w' hS'; (first | (go_simp; done) | (go_simp; with_reducible rfl) | with_reducible rfl)
        (try simp only [Act.put, List.setIfInBounds_toArray, List.set_cons_zero, List.set_cons_succ])
        refine wpAnyH_done (by kernel_rfl) ?_ _
        go_wp2_with fail
        go_meet
        case rel => exact ⟨gz8, gz9, rfl, rfl, hz8, hz9, by omega, ⟨_, _, _, _, pz8, j3⟩, ⟨_, _, _, _, pz9, j4⟩, hS⟩
     ·go_simp
      have pz8 := Pr.new u0 false none 0 0
      have az := bone u0 (.cells #[.bool false, .slice none 0 0] 24)
      have hz8 := hS.size
      replace hS := bthen hS az
      refine hK.out _ _ hS (fun _ => ?_)
      clear hK K az
      generalize hgz : u0.heap.size = gz8 at hz8 pz8 ⊢
      clear hgz
      generalize u0.alloc (.cells #[.bool false, .slice none 0 0] 24) = u0z8 at *
      (try simp only [Act.put, List.setIfInBounds_toArray, List.set_cons_zero, List.set_cons_succ])
      refine wpAnyH_ready (rs := [1, 9]) (by kernel_rfl) (by simp) ?_
      refine AllReadyH.cons (o := ⟨_, _, _, _, _, _⟩) rfl (fun K hK => ?_) (AllReadyH.cons (o := ⟨_, _, _, _, _, _⟩) rfl (fun K hK => ?_) AllReadyH.nil)
      ·go_simp
       refine (refAbs_any _ (i3.call hS).any (by omega)).mono ?_
       rintro e u1 ⟨t2, B2, m2, e2, rfl, j2, d1⟩
       replace hS := bthen hS d1
       (replace pz8 := pz8.call d1)
       first | (with_reducible refine hK.out _ _ hS (fun _ => ?_)) | (go_wp2_with fail; with_reducible refine hK.out _ _ hS (fun _ => ?_))
       clear hK K
       (try simp only [Act.put, List.setIfInBounds_toArray, List.set_cons_zero, List.set_cons_succ])
       refine wpAnyH_ready (rs := [3, 9]) (by kernel_rfl) (by simp) ?_
       refine AllReadyH.cons (o := ⟨_, _, _, _, _, _⟩) rfl (fun K hK => ?_) (AllReadyH.cons (o := ⟨_, _, _, _, _, _⟩) rfl (fun K hK => ?_) AllReadyH.nil)
       ·go_simp
        refine (refDivMod_ne _ j2.any (i7.call hS).any (Nat.le_trans (j2.len LY.abs) (by omega)) (by omega) hgz).mono ?_
        rintro e u2 ⟨t3, B3, m3, e3, t4, B4, m4, e4, rfl, j3, j4, d2⟩
        replace hS := bthen hS d2
        (replace j2 := j2.call d2); (replace pz8 := pz8.call d2)
        first | (with_reducible refine hK.out _ _ hS (fun _ => ?_)) | (go_wp2_with fail; with_reducible refine hK.out _ _ hS (fun _ => ?_))
        clear hK K
        rw [HEF2.out] at j3
        (try simp only [Act.put, List.setIfInBounds_toArray, List.set_cons_zero, List.set_cons_succ])
        refine wpAnyH_take (i := 4) (oi := ⟨_, _, _, _, _, _⟩) (v := ?_) rfl (by kernel_rfl) (by kernel_rfl) (by kernel_rfl) (fun _ _ _ h => h) (Or.inl ⟨by rfl, ?_⟩) hS ?_
        rotate_left
        ·intro w' hS'; (first | (go_simp; done) | (go_simp; with_reducible rfl) | with_reducible rfl)
        (try simp only [Act.put, List.setIfInBounds_toArray, List.set_cons_zero, List.set_cons_succ])
        refine wpAnyH_take (i := 5) (oi := ⟨_, _, _, _, _, _⟩) (v := ?_) rfl (by kernel_rfl) (by kernel_rfl) (by kernel_rfl) (fun _ _ _ h => h) (Or.inl ⟨by rfl, ?_⟩) hS ?_
        rotate_left
        ·intro w' hS'; (first | (go_simp; done) | (go_simp; with_reducible rfl) | with_reducible rfl)
        (try simp only [Act.put, List.setIfInBounds_toArray, List.set_cons_zero, List.set_cons_succ])
        refine wpAnyH_take (i := 6) (oi := ⟨_, _, _, _, _, _⟩) (v := ?_) rfl (by kernel_rfl) (by kernel_rfl) (by kernel_rfl) (fun _ _ _ h => h) (Or.inl ⟨by rfl, ?_⟩) hS ?_
        rotate_left
        ·intro w' hS'; (first | (go_simp; done) | (go_simp; with_reducible rfl) | with_reducible rfl)
        (try simp only [Act.put, List.setIfInBounds_toArray, List.set_cons_zero, List.set_cons_succ])
        refine wpAnyH_take (i := 7) (oi := ⟨_, _, _, _, _, _⟩) (v := ?_) rfl (by kernel_rfl) (by kernel_rfl) (by kernel_rfl) (fun _ _ _ h => h) (Or.inl ⟨by rfl, ?_⟩) hS ?_
        rotate_left
        ·intro w' hS'; (first | (go_simp; done) | (go_simp; with_reducible rfl) | with_reducible rfl)
        (try simp only [Act.put, List.setIfInBounds_toArray, List.set_cons_zero, List.set_cons_succ])
        refine wpAnyH_ready (rs := [9]) (by kernel_rfl) (by simp) ?_
        refine AllReadyH.cons (o := ⟨_, _, _, _, _, _⟩) rfl (fun K hK => ?_) AllReadyH.nil
        go_simp
        have pz9 := Pr.new u2 false none 0 0
        have az := bone u2 (.cells #[.bool false, .slice none 0 0] 24)
        have hz9 := hS.size
        have lt8_9 := pz8.lt
        replace hS := bthen hS az
        (replace j2 := j2.call az); (replace j3 := j3.call az); (replace j4 := j4.call az); (replace pz8 := pz8.call az)
        refine hK.out _ _ hS (fun _ => ?_)
        clear hK K az
        generalize hgz : u2.heap.size = gz9 at hz9 pz9 ⊢ lt8_9
        clear hgz
        generalize u2.alloc (.cells #[.bool false, .slice none 0 0] 24) = u2z9 at *
        (try simp only [Act.put, List.setIfInBounds_toArray, List.set_cons_zero, List.set_cons_succ])
        refine wpAnyH_ready (rs := [10]) (by kernel_rfl) (by simp) ?_
        refine AllReadyH.cons (o := ⟨_, _, _, _, _, _⟩) rfl (fun K hK => ?_) AllReadyH.nil
        obtain ⟨q0, q1, f0, f1, k0, k1⟩ := pz8.all (.bool t3) (.slice B3 m3 e3)
        go_simp
        replace hS := below_stored hS hz8 (.bool t3) (.slice B3 m3 e3)
        refine hK.out _ _ hS (fun _ => ?_)
        clear hK K q0 q1 f0 f1 k0 k1
        replace j2 := j2.stored pz8 (.bool t3) (.slice B3 m3 e3)
        replace j3 := j3.stored pz8 (.bool t3) (.slice B3 m3 e3)
        replace j4 := j4.stored pz8 (.bool t3) (.slice B3 m3 e3)
        replace pz9 := pz9.far (g' := gz8) (by omega) (.bool t3) (.slice B3 m3 e3)
        replace pz8 := pz8.stored (s' := t3) (A' := B3) (n' := m3) (c' := e3)
        (try simp only [Act.put, List.setIfInBounds_toArray, List.set_cons_zero, List.set_cons_succ])
        refine wpAnyH_ready (rs := [11]) (by kernel_rfl) (by simp) ?_
        refine AllReadyH.cons (o := ⟨_, _, _, _, _, _⟩) rfl (fun K hK => ?_) AllReadyH.nil
        obtain ⟨q0, q1, f0, f1, k0, k1⟩ := pz9.all (.bool t4) (.slice B4 m4 e4)
        go_simp
        replace hS := below_stored hS hz9 (.bool t4) (.slice B4 m4 e4)
        refine hK.out _ _ hS (fun _ => ?_)
        clear hK K q0 q1 f0 f1 k0 k1
        replace j2 := j2.stored pz9 (.bool t4) (.slice B4 m4 e4)
        replace j3 := j3.stored pz9 (.bool t4) (.slice B4 m4 e4)
        replace j4 := j4.stored pz9 (.bool t4) (.slice B4 m4 e4)
        replace pz8 := pz8.far (g' := gz9) (by omega) (.bool t4) (.slice B4 m4 e4)
        replace pz9 := pz9.stored (s' := t4) (A' := B4) (n' := m4) (c' := e4)
        (try simp only [Act.put, List.setIfInBounds_toArray, List.set_cons_zero, List.set_cons_succ])
        refine wpAnyH_take (i := 12) (oi := ⟨_, _, _, _, _, _⟩) (v := ?_) rfl (by kernel_rfl) (by kernel_rfl) (by kernel_rfl) (fun _ _ _ h => h) (Or.inl ⟨by rfl, ?_⟩) hS ?_
        rotate_left
        ·intro w' hS'; (first | (go_simp; done) | (go_simp; with_reducible rfl) | with_reducible rfl)
        (try simp only [Act.put, List.setIfInBounds_toArray, List.set_cons_zero, List.set_cons_succ])
        refine wpAnyH_done (by kernel_rfl) ?_ _
        go_wp2_with fail
        go_meet
        case rel => exact ⟨gz8, gz9, rfl, rfl, hz8, hz9, by omega, ⟨_, _, _, _, pz8, j3⟩, ⟨_, _, _, _, pz9, j4⟩, hS⟩
       ·go_simp
        have pz9 := Pr.new u1 false none 0 0
        have az := bone u1 (.cells #[.bool false, .slice none 0 0] 24)
        have hz9 := hS.size
        have lt8_9 := pz8.lt
        replace hS := bthen hS az
        (replace j2 := j2.call az); (replace pz8 := pz8.call az)
        refine hK.out _ _ hS (fun _ => ?_)
        clear hK K az
        generalize hgz : u1.heap.size = gz9 at hz9 pz9 ⊢ lt8_9
        clear hgz
        generalize u1.alloc (.cells #[.bool false, .slice none 0 0] 24) = u1z9 at *
        (try simp only [Act.put, List.setIfInBounds_toArray, List.set_cons_zero, List.set_cons_succ])
        refine wpAnyH_ready (rs := [3]) (by kernel_rfl) (by simp) ?_
        refine AllReadyH.cons (o := ⟨_, _, _, _, _, _⟩) rfl (fun K hK => ?_) AllReadyH.nil
        go_simp
        refine (refDivMod_ne _ j2.any (i7.call hS).any (Nat.le_trans (j2.len LY.abs) (by omega)) (by omega) hgz).mono ?_
        rintro e u2 ⟨t3, B3, m3, e3, t4, B4, m4, e4, rfl, j3, j4, d2⟩
        replace hS := bthen hS d2
        (replace j2 := j2.call d2); (replace pz8 := pz8.call d2); (replace pz9 := pz9.call d2)
        first | (with_reducible refine hK.out _ _ hS (fun _ => ?_)) | (go_wp2_with fail; with_reducible refine hK.out _ _ hS (fun _ => ?_))
        clear hK K
        rw [HEF2.out] at j3
        (try simp only [Act.put, List.setIfInBounds_toArray, List.set_cons_zero, List.set_cons_succ])
        refine wpAnyH_take (i := 4) (oi := ⟨_, _, _, _, _, _⟩) (v := ?_) rfl (by kernel_rfl) (by kernel_rfl) (by kernel_rfl) (fun _ _ _ h => h) (Or.inl ⟨by rfl, ?_⟩) hS ?_
        rotate_left
        ·intro w' hS'; (first | (go_simp; done) | (go_simp; with_reducible rfl) | with_reducible rfl)
        (try simp only [Act.put, List.setIfInBounds_toArray, List.set_cons_zero, List.set_cons_succ])
        refine wpAnyH_take (i := 5) (oi := ⟨_, _, _, _, _, _⟩) (v := ?_) rfl (by kernel_rfl) (by kernel_rfl) (by kernel_rfl) (fun _ _ _ h => h) (Or.inl ⟨by rfl, ?_⟩) hS ?_
        rotate_left
        ·intro w' hS'; (first | (go_simp; done) | (go_simp; with_reducible rfl) | with_reducible rfl)
        (try simp only [Act.put, List.setIfInBounds_toArray, List.set_cons_zero, List.set_cons_succ])
        refine wpAnyH_take (i := 6) (oi := ⟨_, _, _, _, _, _⟩) (v := ?_) rfl (by kernel_rfl) (by kernel_rfl) (by kernel_rfl) (fun _ _ _ h => h) (Or.inl ⟨by rfl, ?_⟩) hS ?_
        rotate_left
        ·intro w' hS'; (first | (go_simp; done) | (go_simp; with_reducible rfl) | with_reducible rfl)
        (try simp only [Act.put, List.setIfInBounds_toArray, List.set_cons_zero, List.set_cons_succ])
        refine wpAnyH_take (i := 7) (oi := ⟨_, _, _, _, _, _⟩) (v := ?_) rfl (by kernel_rfl) (by kernel_rfl) (by kernel_rfl) (fun _ _ _ h => h) (Or.inl ⟨by rfl, ?_⟩) hS ?_
        rotate_left
        ·intro w' hS'; (first | (go_simp; done) | (go_simp; with_reducible rfl) | with_reducible rfl)
        (try simp only [Act.put, List.setIfInBounds_toArray, List.set_cons_zero, List.set_cons_succ])
        refine wpAnyH_ready (rs := [10]) (by kernel_rfl) (by simp) ?_
        refine AllReadyH.cons (o := ⟨_, _, _, _, _, _⟩) rfl (fun K hK => ?_) AllReadyH.nil
        obtain ⟨q0, q1, f0, f1, k0, k1⟩ := pz8.all (.bool t3) (.slice B3 m3 e3)
        go_simp
        replace hS := below_stored hS hz8 (.bool t3) (.slice B3 m3 e3)
        refine hK.out _ _ hS (fun _ => ?_)
        clear hK K q0 q1 f0 f1 k0 k1
        replace j2 := j2.stored pz8 (.bool t3) (.slice B3 m3 e3)
        replace j3 := j3.stored pz8 (.bool t3) (.slice B3 m3 e3)
        replace j4 := j4.stored pz8 (.bool t3) (.slice B3 m3 e3)
        replace pz9 := pz9.far (g' := gz8) (by omega) (.bool t3) (.slice B3 m3 e3)
        replace pz8 := pz8.stored (s' := t3) (A' := B3) (n' := m3) (c' := e3)
        (try simp only [Act.put, List.setIfInBounds_toArray, List.set_cons_zero, List.set_cons_succ])
        refine wpAnyH_ready (rs := [11]) (by kernel_rfl) (by simp) ?_
        refine AllReadyH.cons (o := ⟨_, _, _, _, _, _⟩) rfl (fun K hK => ?_) AllReadyH.nil
        obtain ⟨q0, q1, f0, f1, k0, k1⟩ := pz9.all (.bool t4) (.slice B4 m4 e4)
        go_simp
        replace hS := below_stored hS hz9 (.bool t4) (.slice B4 m4 e4)
        refine hK.out _ _ hS (fun _ => ?_)
        clear hK K q0 q1 f0 f1 k0 k1
        replace j2 := j2.stored pz9 (.bool t4) (.slice B4 m4 e4)
        replace j3 := j3.stored pz9 (.bool t4) (.slice B4 m4 e4)
        replace j4 := j4.stored pz9 (.bool t4) (.slice B4 m4 e4)
        replace pz8 := pz8.far (g' := gz9) (by omega) (.bool t4) (.slice B4 m4 e4)
        replace pz9 := pz9.stored (s' := t4) (A' := B4) (n' := m4) (c' := e4)
        (try simp only [Act.put, List.setIfInBounds_toArray, List.set_cons_zero, List.set_cons_succ])
        refine wpAnyH_take (i := 12) (oi := ⟨_, _, _, _, _, _⟩) (v := ?_) rfl (by kernel_rfl) (by kernel_rfl) (by kernel_rfl) (fun _ _ _ h => h) (Or.inl ⟨by rfl, ?_⟩) hS ?_
        rotate_left
        ·intro w' hS'; (first | (go_simp; done) | (go_simp; with_reducible rfl) | with_reducible rfl)
        (try simp only [Act.put, List.setIfInBounds_toArray, List.set_cons_zero, List.set_cons_succ])
        refine wpAnyH_done (by kernel_rfl) ?_ _
        go_wp2_with fail
        go_meet
        case rel => exact ⟨gz8, gz9, rfl, rfl, hz8, hz9, by omega, ⟨_, _, _, _, pz8, j3⟩, ⟨_, _, _, _, pz9, j4⟩, hS⟩
      ·go_simp
       have pz9 := Pr.new u0z8 false none 0 0
       have az := bone u0z8 (.cells #[.bool false, .slice none 0 0] 24)
       have hz9 := hS.size
       have lt8_9 := pz8.lt
       replace hS := bthen hS az
       (replace pz8 := pz8.call az)
       refine hK.out _ _ hS (fun _ => ?_)
       clear hK K az
       generalize hgz : u0z8.heap.size = gz9 at hz9 pz9 ⊢ lt8_9
       clear hgz
       generalize u0z8.alloc (.cells #[.bool false, .slice none 0 0] 24) = u0z8z9 at *
       (try simp only [Act.put, List.setIfInBounds_toArray, List.set_cons_zero, List.set_cons_succ])
       refine wpAnyH_ready (rs := [1]) (by kernel_rfl) (by simp) ?_
       refine AllReadyH.cons (o := ⟨_, _, _, _, _, _⟩) rfl (fun K hK => ?_) AllReadyH.nil
       go_simp
       refine (refAbs_any _ (i3.call hS).any (by omega)).mono ?_
       rintro e u1 ⟨t2, B2, m2, e2, rfl, j2, d1⟩
       replace hS := bthen hS d1
       (replace pz8 := pz8.call d1); (replace pz9 := pz9.call d1)
       first | (with_reducible refine hK.out _ _ hS (fun _ => ?_)) | (go_wp2_with fail; with_reducible refine hK.out _ _ hS (fun _ => ?_))
       clear hK K
       (try simp only [Act.put, List.setIfInBounds_toArray, List.set_cons_zero, List.set_cons_succ])
       refine wpAnyH_ready (rs := [3]) (by kernel_rfl) (by simp) ?_
       refine AllReadyH.cons (o := ⟨_, _, _, _, _, _⟩) rfl (fun K hK => ?_) AllReadyH.nil
       go_simp
       refine (refDivMod_ne _ j2.any (i7.call hS).any (Nat.le_trans (j2.len LY.abs) (by omega)) (by omega) hgz).mono ?_
       rintro e u2 ⟨t3, B3, m3, e3, t4, B4, m4, e4, rfl, j3, j4, d2⟩
       replace hS := bthen hS d2
       (replace j2 := j2.call d2); (replace pz8 := pz8.call d2); (replace pz9 := pz9.call d2)
       first | (with_reducible refine hK.out _ _ hS (fun _ => ?_)) | (go_wp2_with fail; with_reducible refine hK.out _ _ hS (fun _ => ?_))
       clear hK K
       rw [HEF2.out] at j3
       (try simp only [Act.put, List.setIfInBounds_toArray, List.set_cons_zero, List.set_cons_succ])
       refine wpAnyH_take (i := 4) (oi := ⟨_, _, _, _, _, _⟩) (v := ?_) rfl (by kernel_rfl) (by kernel_rfl) (by kernel_rfl) (fun _ _ _ h => h) (Or.inl ⟨by rfl, ?_⟩) hS ?_
       rotate_left
       ·intro w' hS'; (first | (go_simp; done) | (go_simp; with_reducible rfl) | with_reducible rfl)
       (try simp only [Act.put, List.setIfInBounds_toArray, List.set_cons_zero, List.set_cons_succ])
       refine wpAnyH_take (i := 5) (oi := ⟨_, _, _, _, _, _⟩) (v := ?_) rfl (by kernel_rfl) (by kernel_rfl) (by kernel_rfl) (fun _ _ _ h => h) (Or.inl ⟨by rfl, ?_⟩) hS ?_
       rotate_left
       ·intro w' hS'; (first | (go_simp; done) | (go_simp; with_reducible rfl) | with_reducible rfl)
       (try simp only [Act.put, List.setIfInBounds_toArray, List.set_cons_zero, List.set_cons_succ])
       refine wpAnyH_take (i := 6) (oi := ⟨_, _, _, _, _, _⟩) (v := ?_) rfl (by kernel_rfl) (by kernel_rfl) (by kernel_rfl) (fun _ _ _ h => h) (Or.inl ⟨by rfl, ?_⟩) hS ?_
       rotate_left
       ·intro w' hS'; (first | (go_simp; done) | (go_simp; with_reducible rfl) | with_reducible rfl)
       (try simp only [Act.put, List.setIfInBounds_toArray, List.set_cons_zero, List.set_cons_succ])
       refine wpAnyH_take (i := 7) (oi := ⟨_, _, _, _, _, _⟩) (v := ?_) rfl (by kernel_rfl) (by kernel_rfl) (by kernel_rfl) (fun _ _ _ h => h) (Or.inl ⟨by rfl, ?_⟩) hS ?_
       rotate_left
       ·intro w' hS'; (first | (go_simp; done) | (go_simp; with_reducible rfl) | with_reducible rfl)
       (try simp only [Act.put, List.setIfInBounds_toArray, List.set_cons_zero, List.set_cons_succ])
       refine wpAnyH_ready (rs := [10]) (by kernel_rfl) (by simp) ?_
       refine AllReadyH.cons (o := ⟨_, _, _, _, _, _⟩) rfl (fun K hK => ?_) AllReadyH.nil
       obtain ⟨q0, q1, f0, f1, k0, k1⟩ := pz8.all (.bool t3) (.slice B3 m3 e3)
       go_simp
       replace hS := below_stored hS hz8 (.bool t3) (.slice B3 m3 e3)
       refine hK.out _ _ hS (fun _ => ?_)
       clear hK K q0 q1 f0 f1 k0 k1
       replace j2 := j2.stored pz8 (.bool t3) (.slice B3 m3 e3)
       replace j3 := j3.stored pz8 (.bool t3) (.slice B3 m3 e3)
       replace j4 := j4.stored pz8 (.bool t3) (.slice B3 m3 e3)
       replace pz9 := pz9.far (g' := gz8) (by omega) (.bool t3) (.slice B3 m3 e3)
       replace pz8 := pz8.stored (s' := t3) (A' := B3) (n' := m3) (c' := e3)
       (try simp only [Act.put, List.setIfInBounds_toArray, List.set_cons_zero, List.set_cons_succ])
       refine wpAnyH_ready (rs := [11]) (by kernel_rfl) (by simp) ?_
       refine AllReadyH.cons (o := ⟨_, _, _, _, _, _⟩) rfl (fun K hK => ?_) AllReadyH.nil
       obtain ⟨q0, q1, f0, f1, k0, k1⟩ := pz9.all (.bool t4) (.slice B4 m4 e4)
       go_simp
       replace hS := below_stored hS hz9 (.bool t4) (.slice B4 m4 e4)
       refine hK.out _ _ hS (fun _ => ?_)
       clear hK K q0 q1 f0 f1 k0 k1
       replace j2 := j2.stored pz9 (.bool t4) (.slice B4 m4 e4)
       replace j3 := j3.stored pz9 (.bool t4) (.slice B4 m4 e4)
       replace j4 := j4.stored pz9 (.bool t4) (.slice B4 m4 e4)
       replace pz8 := pz8.far (g' := gz9) (by omega) (.bool t4) (.slice B4 m4 e4)
       replace pz9 := pz9.stored (s' := t4) (A' := B4) (n' := m4) (c' := e4)
       (try simp only [Act.put, List.setIfInBounds_toArray, List.set_cons_zero, List.set_cons_succ])
       refine wpAnyH_take (i := 12) (oi := ⟨_, _, _, _, _, _⟩) (v := ?_) rfl (by kernel_rfl) (by kernel_rfl) (by kernel_rfl) (fun _ _ _ h => h) (Or.inl ⟨by rfl, ?_⟩) hS ?_
       rotate_left
       ·intro w' hS'; (first | (go_simp; done) | (go_simp; with_reducible rfl) | with_reducible rfl)
       (try simp only [Act.put, List.setIfInBounds_toArray, List.set_cons_zero, List.set_cons_succ])
       refine wpAnyH_done (by kernel_rfl) ?_ _
       go_wp2_with fail
       go_meet
       case rel => exact ⟨gz8, gz9, rfl, rfl, hz8, hz9, by omega, ⟨_, _, _, _, pz8, j3⟩, ⟨_, _, _, _, pz9, j4⟩, hS⟩
     ·go_simp
      have pz9 := Pr.new u0 false none 0 0
      have az := bone u0 (.cells #[.bool false, .slice none 0 0] 24)
      have hz9 := hS.size
      replace hS := bthen hS az
      refine hK.out _ _ hS (fun _ => ?_)
      clear hK K az
      generalize hgz : u0.heap.size = gz9 at hz9 pz9 ⊢
      clear hgz
      generalize u0.alloc (.cells #[.bool false, .slice none 0 0] 24) = u0z9 at *
      (try simp only [Act.put, List.setIfInBounds_toArray, List.set_cons_zero, List.set_cons_succ])
      refine wpAnyH_ready (rs := [1, 8]) (by kernel_rfl) (by simp) ?_
      refine AllReadyH.cons (o := ⟨_, _, _, _, _, _⟩) rfl (fun K hK => ?_) (AllReadyH.cons (o := ⟨_, _, _, _, _, _⟩) rfl (fun K hK => ?_) AllReadyH.nil)
      ·go_simp
       refine (refAbs_any _ (i3.call hS).any (by omega)).mono ?_
       rintro e u1 ⟨t2, B2, m2, e2, rfl, j2, d1⟩
       replace hS := bthen hS d1
       (replace pz9 := pz9.call d1)
       first | (with_reducible refine hK.out _ _ hS (fun _ => ?_)) | (go_wp2_with fail; with_reducible refine hK.out _ _ hS (fun _ => ?_))
       clear hK K
       (try simp only [Act.put, List.setIfInBounds_toArray, List.set_cons_zero, List.set_cons_succ])
       refine wpAnyH_ready (rs := [3, 8]) (by kernel_rfl) (by simp) ?_
       refine AllReadyH.cons (o := ⟨_, _, _, _, _, _⟩) rfl (fun K hK => ?_) (AllReadyH.cons (o := ⟨_, _, _, _, _, _⟩) rfl (fun K hK => ?_) AllReadyH.nil)
       ·go_simp
        refine (refDivMod_ne _ j2.any (i7.call hS).any (Nat.le_trans (j2.len LY.abs) (by omega)) (by omega) hgz).mono ?_
        rintro e u2 ⟨t3, B3, m3, e3, t4, B4, m4, e4, rfl, j3, j4, d2⟩
        replace hS := bthen hS d2
        (replace j2 := j2.call d2); (replace pz9 := pz9.call d2)
        first | (with_reducible refine hK.out _ _ hS (fun _ => ?_)) | (go_wp2_with fail; with_reducible refine hK.out _ _ hS (fun _ => ?_))
        clear hK K
        rw [HEF2.out] at j3
        (try simp only [Act.put, List.setIfInBounds_toArray, List.set_cons_zero, List.set_cons_succ])
        refine wpAnyH_take (i := 4) (oi := ⟨_, _, _, _, _, _⟩) (v := ?_) rfl (by kernel_rfl) (by kernel_rfl) (by kernel_rfl) (fun _ _ _ h => h) (Or.inl ⟨by rfl, ?_⟩) hS ?_
        rotate_left
        ·intro w' hS'; (first | (go_simp; done) | (go_simp; with_reducible rfl) | with_reducible rfl)
        (try simp only [Act.put, List.setIfInBounds_toArray, List.set_cons_zero, List.set_cons_succ])
        refine wpAnyH_take (i := 5) (oi := ⟨_, _, _, _, _, _⟩) (v := ?_) rfl (by kernel_rfl) (by kernel_rfl) (by kernel_rfl) (fun _ _ _ h => h) (Or.inl ⟨by rfl, ?_⟩) hS ?_
        rotate_left
        ·intro w' hS'; (first | (go_simp; done) | (go_simp; with_reducible rfl) | with_reducible rfl)
        (try simp only [Act.put, List.setIfInBounds_toArray, List.set_cons_zero, List.set_cons_succ])
        refine wpAnyH_take (i := 6) (oi := ⟨_, _, _, _, _, _⟩) (v := ?_) rfl (by kernel_rfl) (by kernel_rfl) (by kernel_rfl) (fun _ _ _ h => h) (Or.inl ⟨by rfl, ?_⟩) hS ?_
        rotate_left
        ·intro w' hS'; (first | (go_simp; done) | (go_simp; with_reducible rfl) | with_reducible rfl)
        (try simp only [Act.put, List.setIfInBounds_toArray, List.set_cons_zero, List.set_cons_succ])
        refine wpAnyH_take (i := 7) (oi := ⟨_, _, _, _, _, _⟩) (v := ?_) rfl (by kernel_rfl) (by kernel_rfl) (by kernel_rfl) (fun _ _ _ h => h) (Or.inl ⟨by rfl, ?_⟩) hS ?_
        rotate_left
        ·intro w' hS'; (first | (go_simp; done) | (go_simp; with_reducible rfl) | with_reducible rfl)
        (try simp only [Act.put, List.setIfInBounds_toArray, List.set_cons_zero, List.set_cons_succ])
        refine wpAnyH_ready (rs := [8]) (by kernel_rfl) (by simp) ?_
        refine AllReadyH.cons (o := ⟨_, _, _, _, _, _⟩) rfl (fun K hK => ?_) AllReadyH.nil
        go_simp
        have pz8 := Pr.new u2 false none 0 0
        have az := bone u2 (.cells #[.bool false, .slice none 0 0] 24)
        have hz8 := hS.size
        have lt9_8 := pz9.lt
        replace hS := bthen hS az
        (replace j2 := j2.call az); (replace j3 := j3.call az); (replace j4 := j4.call az); (replace pz9 := pz9.call az)
        refine hK.out _ _ hS (fun _ => ?_)
        clear hK K az
        generalize hgz : u2.heap.size = gz8 at hz8 pz8 ⊢ lt9_8
        clear hgz
        generalize u2.alloc (.cells #[.bool false, .slice none 0 0] 24) = u2z8 at *
        (try simp only [Act.put, List.setIfInBounds_toArray, List.set_cons_zero, List.set_cons_succ])
        refine wpAnyH_ready (rs := [10]) (by kernel_rfl) (by simp) ?_
        refine AllReadyH.cons (o := ⟨_, _, _, _, _, _⟩) rfl (fun K hK => ?_) AllReadyH.nil
        obtain ⟨q0, q1, f0, f1, k0, k1⟩ := pz8.all (.bool t3) (.slice B3 m3 e3)
        go_simp
        replace hS := below_stored hS hz8 (.bool t3) (.slice B3 m3 e3)
        refine hK.out _ _ hS (fun _ => ?_)
        clear hK K q0 q1 f0 f1 k0 k1
        replace j2 := j2.stored pz8 (.bool t3) (.slice B3 m3 e3)
        replace j3 := j3.stored pz8 (.bool t3) (.slice B3 m3 e3)
        replace j4 := j4.stored pz8 (.bool t3) (.slice B3 m3 e3)
        replace pz9 := pz9.far (g' := gz8) (by omega) (.bool t3) (.slice B3 m3 e3)
        replace pz8 := pz8.stored (s' := t3) (A' := B3) (n' := m3) (c' := e3)
        (try simp only [Act.put, List.setIfInBounds_toArray, List.set_cons_zero, List.set_cons_succ])
        refine wpAnyH_ready (rs := [11]) (by kernel_rfl) (by simp) ?_
        refine AllReadyH.cons (o := ⟨_, _, _, _, _, _⟩) rfl (fun K hK => ?_) AllReadyH.nil
        obtain ⟨q0, q1, f0, f1, k0, k1⟩ := pz9.all (.bool t4) (.slice B4 m4 e4)
        go_simp
        replace hS := below_stored hS hz9 (.bool t4) (.slice B4 m4 e4)
        refine hK.out _ _ hS (fun _ => ?_)
        clear hK K q0 q1 f0 f1 k0 k1
        replace j2 := j2.stored pz9 (.bool t4) (.slice B4 m4 e4)
        replace j3 := j3.stored pz9 (.bool t4) (.slice B4 m4 e4)
        replace j4 := j4.stored pz9 (.bool t4) (.slice B4 m4 e4)
        replace pz8 := pz8.far (g' := gz9) (by omega) (.bool t4) (.slice B4 m4 e4)
        replace pz9 := pz9.stored (s' := t4) (A' := B4) (n' := m4) (c' := e4)
        (try simp only [Act.put, List.setIfInBounds_toArray, List.set_cons_zero, List.set_cons_succ])
        refine wpAnyH_take (i := 12) (oi := ⟨_, _, _, _, _, _⟩) (v := ?_) rfl (by kernel_rfl) (by kernel_rfl) (by kernel_rfl) (fun _ _ _ h => h) (Or.inl ⟨by rfl, ?_⟩) hS ?_
        rotate_left
        ·intro w' hS'; (first | (go_simp; done) | (go_simp; with_reducible rfl) | with_reducible rfl)
        (try simp only [Act.put, List.setIfInBounds_toArray, List.set_cons_zero, List.set_cons_succ])
        refine wpAnyH_done (by kernel_rfl) ?_ _
        go_wp2_with fail
        go_meet
        case rel => exact ⟨gz8, gz9, rfl, rfl, hz8, hz9, by omega, ⟨_, _, _, _, pz8, j3⟩, ⟨_, _, _, _, pz9, j4⟩, hS⟩
       ·go_simp
        have pz8 := Pr.new u1 false none 0 0
        have az := bone u1 (.cells #[.bool false, .slice none 0 0] 24)
        have hz8 := hS.size
        have lt9_8 := pz9.lt
        replace hS := bthen hS az
        (replace j2 := j2.call az); (replace pz9 := pz9.call az)
        refine hK.out _ _ hS (fun _ => ?_)
        clear hK K az
        generalize hgz : u1.heap.size = gz8 at hz8 pz8 ⊢ lt9_8
        clear hgz
        generalize u1.alloc (.cells #[.bool false, .slice none 0 0] 24) = u1z8 at *
        (try simp only [Act.put, List.setIfInBounds_toArray, List.set_cons_zero, List.set_cons_succ])
        refine wpAnyH_ready (rs := [3]) (by kernel_rfl) (by simp) ?_
        refine AllReadyH.cons (o := ⟨_, _, _, _, _, _⟩) rfl (fun K hK => ?_) AllReadyH.nil
        go_simp
        refine (refDivMod_ne _ j2.any (i7.call hS).any (Nat.le_trans (j2.len LY.abs) (by omega)) (by omega) hgz).mono ?_
        rintro e u2 ⟨t3, B3, m3, e3, t4, B4, m4, e4, rfl, j3, j4, d2⟩
        replace hS := bthen hS d2
        (replace j2 := j2.call d2); (replace pz9 := pz9.call d2); (replace pz8 := pz8.call d2)
        first | (with_reducible refine hK.out _ _ hS (fun _ => ?_)) | (go_wp2_with fail; with_reducible refine hK.out _ _ hS (fun _ => ?_))
        clear hK K
        rw [HEF2.out] at j3
        (try simp only [Act.put, List.setIfInBounds_toArray, List.set_cons_zero, List.set_cons_succ])
        refine wpAnyH_take (i := 4) (oi := ⟨_, _, _, _, _, _⟩) (v := ?_) rfl (by kernel_rfl) (by kernel_rfl) (by kernel_rfl) (fun _ _ _ h => h) (Or.inl ⟨by rfl, ?_⟩) hS ?_
        rotate_left
        ·intro w' hS'; (first | (go_simp; done) | (go_simp; with_reducible rfl) | with_reducible rfl)
        (try simp only [Act.put, List.setIfInBounds_toArray, List.set_cons_zero, List.set_cons_succ])
        refine wpAnyH_take (i := 5) (oi := ⟨_, _, _, _, _, _⟩) (v := ?_) rfl (by kernel_rfl) (by kernel_rfl) (by kernel_rfl) (fun _ _ _ h => h) (Or.inl ⟨by rfl, ?_⟩) hS ?_
        rotate_left
        ·intro w' hS'; (first | (go_simp; done) | (go_simp; with_reducible rfl) | with_reducible rfl)
        (try simp only [Act.put, List.setIfInBounds_toArray, List.set_cons_zero, List.set_cons_succ])
        refine wpAnyH_take (i := 6) (oi := ⟨_, _, _, _, _, _⟩) (v := ?_) rfl (by kernel_rfl) (by kernel_rfl) (by kernel_rfl) (fun _ _ _ h => h) (Or.inl ⟨by rfl, ?_⟩) hS ?_
        rotate_left
        ·intro w' hS'; (first | (go_simp; done) | (go_simp; with_reducible rfl) | with_reducible rfl)
        (try simp only [Act.put, List.setIfInBounds_toArray, List.set_cons_zero, List.set_cons_succ])
        refine wpAnyH_take (i := 7) (oi := ⟨_, _, _, _, _, _⟩) (v := ?_) rfl (by kernel_rfl) (by kernel_rfl) (by kernel_rfl) (fun _ _ _ h => h) (Or.inl ⟨by rfl, ?_⟩) hS ?_
        rotate_left
        ·intro w' hS'; (first | (go_simp; done) | (go_simp; with_reducible rfl) | with_reducible rfl)
        (try simp only [Act.put, List.setIfInBounds_toArray, List.set_cons_zero, List.set_cons_succ])
        refine wpAnyH_ready (rs := [10]) (by kernel_rfl) (by simp) ?_
        refine AllReadyH.cons (o := ⟨_, _, _, _, _, _⟩) rfl (fun K hK => ?_) AllReadyH.nil
        obtain ⟨q0, q1, f0, f1, k0, k1⟩ := pz8.all (.bool t3) (.slice B3 m3 e3)
        go_simp
        replace hS := below_stored hS hz8 (.bool t3) (.slice B3 m3 e3)
        refine hK.out _ _ hS (fun _ => ?_)
        clear hK K q0 q1 f0 f1 k0 k1
        replace j2 := j2.stored pz8 (.bool t3) (.slice B3 m3 e3)
        replace j3 := j3.stored pz8 (.bool t3) (.slice B3 m3 e3)
        replace j4 := j4.stored pz8 (.bool t3) (.slice B3 m3 e3)
        replace pz9 := pz9.far (g' := gz8) (by omega) (.bool t3) (.slice B3 m3 e3)
        replace pz8 := pz8.stored (s' := t3) (A' := B3) (n' := m3) (c' := e3)
        (try simp only [Act.put, List.setIfInBounds_toArray, List.set_cons_zero, List.set_cons_succ])
        refine wpAnyH_ready (rs := [11]) (by kernel_rfl) (by simp) ?_
        refine AllReadyH.cons (o := ⟨_, _, _, _, _, _⟩) rfl (fun K hK => ?_) AllReadyH.nil
        obtain ⟨q0, q1, f0, f1, k0, k1⟩ := pz9.all (.bool t4) (.slice B4 m4 e4)
        go_simp
        replace hS := below_stored hS hz9 (.bool t4) (.slice B4 m4 e4)
        refine hK.out _ _ hS (fun _ => ?_)
        clear hK K q0 q1 f0 f1 k0 k1
        replace j2 := j2.stored pz9 (.bool t4) (.slice B4 m4 e4)
        replace j3 := j3.stored pz9 (.bool t4) (.slice B4 m4 e4)
        replace j4 := j4.stored pz9 (.bool t4) (.slice B4 m4 e4)
        replace pz8 := pz8.far (g' := gz9) (by omega) (.bool t4) (.slice B4 m4 e4)
        replace pz9 := pz9.stored (s' := t4) (A' := B4) (n' := m4) (c' := e4)
        (try simp only [Act.put, List.setIfInBounds_toArray, List.set_cons_zero, List.set_cons_succ])
        refine wpAnyH_take (i := 12) (oi := ⟨_, _, _, _, _, _⟩) (v := ?_) rfl (by kernel_rfl) (by kernel_rfl) (by kernel_rfl) (fun _ _ _ h => h) (Or.inl ⟨by rfl, ?_⟩) hS ?_
        rotate_left
        ·intro w' hS'; (first | (go_simp; done) | (go_simp; with_reducible rfl) | with_reducible rfl)
        (try simp only [Act.put, List.setIfInBounds_toArray, List.set_cons_zero, List.set_cons_succ])
        refine wpAnyH_done (by kernel_rfl) ?_ _
        go_wp2_with fail
        go_meet
        case rel => exact ⟨gz8, gz9, rfl, rfl, hz8, hz9, by omega, ⟨_, _, _, _, pz8, j3⟩, ⟨_, _, _, _, pz9, j4⟩, hS⟩
      ·go_simp
       have pz8 := Pr.new u0z9 false none 0 0
       have az := bone u0z9 (.cells #[.bool false, .slice none 0 0] 24)
       have hz8 := hS.size
       have lt9_8 := pz9.lt
       replace hS := bthen hS az
       (replace pz9 := pz9.call az)
       refine hK.out _ _ hS (fun _ => ?_)
       clear hK K az
       generalize hgz : u0z9.heap.size = gz8 at hz8 pz8 ⊢ lt9_8
       clear hgz
       generalize u0z9.alloc (.cells #[.bool false, .slice none 0 0] 24) = u0z9z8 at *
       (try simp only [Act.put, List.setIfInBounds_toArray, List.set_cons_zero, List.set_cons_succ])
       refine wpAnyH_ready (rs := [1]) (by kernel_rfl) (by simp) ?_
       refine AllReadyH.cons (o := ⟨_, _, _, _, _, _⟩) rfl (fun K hK => ?_) AllReadyH.nil
       go_simp
       refine (refAbs_any _ (i3.call hS).any (by omega)).mono ?_
       rintro e u1 ⟨t2, B2, m2, e2, rfl, j2, d1⟩
       replace hS := bthen hS d1
       (replace pz9 := pz9.call d1); (replace pz8 := pz8.call d1)
       first | (with_reducible refine hK.out _ _ hS (fun _ => ?_)) | (go_wp2_with fail; with_reducible refine hK.out _ _ hS (fun _ => ?_))
       clear hK K
       (try simp only [Act.put, List.setIfInBounds_toArray, List.set_cons_zero, List.set_cons_succ])
       refine wpAnyH_ready (rs := [3]) (by kernel_rfl) (by simp) ?_
       refine AllReadyH.cons (o := ⟨_, _, _, _, _, _⟩) rfl (fun K hK => ?_) AllReadyH.nil
       go_simp
       refine (refDivMod_ne _ j2.any (i7.call hS).any (Nat.le_trans (j2.len LY.abs) (by omega)) (by omega) hgz).mono ?_
       rintro e u2 ⟨t3, B3, m3, e3, t4, B4, m4, e4, rfl, j3, j4, d2⟩
       replace hS := bthen hS d2
       (replace j2 := j2.call d2); (replace pz9 := pz9.call d2); (replace pz8 := pz8.call d2)
       first | (with_reducible refine hK.out _ _ hS (fun _ => ?_)) | (go_wp2_with fail; with_reducible refine hK.out _ _ hS (fun _ => ?_))
       clear hK K
       rw [HEF2.out] at j3
       (try simp only [Act.put, List.setIfInBounds_toArray, List.set_cons_zero, List.set_cons_succ])
       refine wpAnyH_take (i := 4) (oi := ⟨_, _, _, _, _, _⟩) (v := ?_) rfl (by kernel_rfl) (by kernel_rfl) (by kernel_rfl) (fun _ _ _ h => h) (Or.inl ⟨by rfl, ?_⟩) hS ?_
       rotate_left
       ·intro w' hS'; (first | (go_simp; done) | (go_simp; with_reducible rfl) | with_reducible rfl)
       (try simp only [Act.put, List.setIfInBounds_toArray, List.set_cons_zero, List.set_cons_succ])
       refine wpAnyH_take (i := 5) (oi := ⟨_, _, _, _, _, _⟩) (v := ?_) rfl (by kernel_rfl) (by kernel_rfl) (by kernel_rfl) (fun _ _ _ h => h) (Or.inl ⟨by rfl, ?_⟩) hS ?_
       rotate_left
       ·intro w' hS'; (first | (go_simp; done) | (go_simp; with_reducible rfl) | with_reducible rfl)
       (try simp only [Act.put, List.setIfInBounds_toArray, List.set_cons_zero, List.set_cons_succ])
       refine wpAnyH_take (i := 6) (oi := ⟨_, _, _, _, _, _⟩) (v := ?_) rfl (by kernel_rfl) (by kernel_rfl) (by kernel_rfl) (fun _ _ _ h => h) (Or.inl ⟨by rfl, ?_⟩) hS ?_
       rotate_left
       ·intro w' hS'; (first | (go_simp; done) | (go_simp; with_reducible rfl) | with_reducible rfl)
       (try simp only [Act.put, List.setIfInBounds_toArray, List.set_cons_zero, List.set_cons_succ])
       refine wpAnyH_take (i := 7) (oi := ⟨_, _, _, _, _, _⟩) (v := ?_) rfl (by kernel_rfl) (by kernel_rfl) (by kernel_rfl) (fun _ _ _ h => h) (Or.inl ⟨by rfl, ?_⟩) hS ?_
       rotate_left
       ·intro w' hS'; (first | (go_simp; done) | (go_simp; with_reducible rfl) | with_reducible rfl)
       (try simp only [Act.put, List.setIfInBounds_toArray, List.set_cons_zero, List.set_cons_succ])
       refine wpAnyH_ready (rs := [10]) (by kernel_rfl) (by simp) ?_
       refine AllReadyH.cons (o := ⟨_, _, _, _, _, _⟩) rfl (fun K hK => ?_) AllReadyH.nil
       obtain ⟨q0, q1, f0, f1, k0, k1⟩ := pz8.all (.bool t3) (.slice B3 m3 e3)
       go_simp
       replace hS := below_stored hS hz8 (.bool t3) (.slice B3 m3 e3)
       refine hK.out _ _ hS (fun _ => ?_)
       clear hK K q0 q1 f0 f1 k0 k1
       replace j2 := j2.stored pz8 (.bool t3) (.slice B3 m3 e3)
       replace j3 := j3.stored pz8 (.bool t3) (.slice B3 m3 e3)
       replace j4 := j4.stored pz8 (.bool t3) (.slice B3 m3 e3)
       replace pz9 := pz9.far (g' := gz8) (by omega) (.bool t3) (.slice B3 m3 e3)
       replace pz8 := pz8.stored (s' := t3) (A' := B3) (n' := m3) (c' := e3)
       (try simp only [Act.put, List.setIfInBounds_toArray, List.set_cons_zero, List.set_cons_succ])
       refine wpAnyH_ready (rs := [11]) (by kernel_rfl) (by simp) ?_
       refine AllReadyH.cons (o := ⟨_, _, _, _, _, _⟩) rfl (fun K hK => ?_) AllReadyH.nil
       obtain ⟨q0, q1, f0, f1, k0, k1⟩ := pz9.all (.bool t4) (.slice B4 m4 e4)
       go_simp
       replace hS := below_stored hS hz9 (.bool t4) (.slice B4 m4 e4)
       refine hK.out _ _ hS (fun _ => ?_)
       clear hK K q0 q1 f0 f1 k0 k1
       replace j2 := j2.stored pz9 (.bool t4) (.slice B4 m4 e4)
       replace j3 := j3.stored pz9 (.bool t4) (.slice B4 m4 e4)
       replace j4 := j4.stored pz9 (.bool t4) (.slice B4 m4 e4)
       replace pz8 := pz8.far (g' := gz9) (by omega) (.bool t4) (.slice B4 m4 e4)
       replace pz9 := pz9.stored (s' := t4) (A' := B4) (n' := m4) (c' := e4)
       (try simp only [Act.put, List.setIfInBounds_toArray, List.set_cons_zero, List.set_cons_succ])
       refine wpAnyH_take (i := 12) (oi := ⟨_, _, _, _, _, _⟩) (v := ?_) rfl (by kernel_rfl) (by kernel_rfl) (by kernel_rfl) (fun _ _ _ h => h) (Or.inl ⟨by rfl, ?_⟩) hS ?_
       rotate_left
       ·intro w' hS'; (first | (go_simp; done) | (go_simp; with_reducible rfl) | with_reducible rfl)
       (try simp only [Act.put, List.setIfInBounds_toArray, List.set_cons_zero, List.set_cons_succ])
       refine wpAnyH_done (by kernel_rfl) ?_ _
       go_wp2_with fail
       go_meet
       case rel => exact ⟨gz8, gz9, rfl, rfl, hz8, hz9, by omega, ⟨_, _, _, _, pz8, j3⟩, ⟨_, _, _, _, pz9, j4⟩, hS⟩
   case rest =>
    obtain ⟨g8, g9, rfl, rfl, ne5_0, ne5_1, ne5_2, HB⟩ := hcut
    obtain ⟨⟨s8, A8, n8, c8, p8, i8⟩, ⟨s9, A9, n9, c9, p9, i9⟩, dB⟩ := HB.out
    obtain ⟨X5, rfl⟩ : ∃ X : World, X = wc := ⟨_, rfl⟩
    have lt7_8 : g7 < g8 := by have := p7.lt; omega
    have lt7_9 : g7 < g9 := by have := p7.lt; omega
    (replace p2 := p2.call dB); (replace p3 := p3.call dB); (replace p4 := p4.call dB); (replace p5 := p5.call dB); (replace p6 := p6.call dB); (replace p7 := p7.call dB); (replace i2 := i2.call dB); (replace i3 := i3.call dB); (replace i7 := i7.call dB)
    replace hW := bthen hW dB
    clear HB dB ne5_0 ne5_1
    have l2 := i2.len LX
    have l7 := i7.len LG
    have l8 := i8.len LM
    clear p9 i9
    obtain ⟨o2_0, o2_1⟩ := p2.cells1
    obtain ⟨o7_0, o7_1⟩ := p7.cells1
    go_wp2_with fail
    refine (refDivMod_ne _ i2.any i7.any (by omega) (by omega) hgz).mono ?_
    rintro e X6 ⟨s11, A11, n11, c11, s12, A12, n12, c12, rfl, i11, i12, dX6⟩
    (replace p2 := p2.call dX6); (replace p3 := p3.call dX6); (replace p4 := p4.call dX6); (replace p5 := p5.call dX6); (replace p6 := p6.call dX6); (replace p7 := p7.call dX6); (replace p8 := p8.call dX6); (replace i2 := i2.call dX6); (replace i3 := i3.call dX6); (replace i7 := i7.call dX6); (replace i8 := i8.call dX6)
    replace hW := bthen hW dX6
    clear o2_0 o2_1 o7_0 o7_1
    rw [HEF1.out] at i11
    have l11 := i11.len LA
    have lt8_11 := p8.lt
    obtain ⟨X7a, hX7a⟩ : ∃ Y, Y = X6.alloc (.cells #[.bool s11, .slice A11 n11 c11] 24) := ⟨_, rfl⟩
    have dbX7a : Below X6.heap.size X6 X7a := by rw [hX7a]; exact bone _ _
    have eX7a : X6.heap.size = X6.heap.size := by first | rfl | (rw [rfl]; simp)
    have p11 : Pr X7a (X6.heap.size) s11 A11 n11 c11 := by rw [← eX7a, hX7a]; exact Pr.new _ _ _ _ _
    (replace p2 := p2.call dbX7a); (replace p3 := p3.call dbX7a); (replace p4 := p4.call dbX7a); (replace p5 := p5.call dbX7a); (replace p6 := p6.call dbX7a); (replace p7 := p7.call dbX7a); (replace p8 := p8.call dbX7a); (replace i2 := i2.call dbX7a); (replace i3 := i3.call dbX7a); (replace i7 := i7.call dbX7a); (replace i8 := i8.call dbX7a); (replace i11 := i11.call dbX7a); (replace i12 := i12.call dbX7a)
    replace hW := bthen hW dbX7a
    obtain ⟨X7, hX7⟩ : ∃ Y, Y = X7a.alloc (.cells #[.bool s12, .slice A12 n12 c12] 24) := ⟨_, rfl⟩
    have dbX7 : Below X7a.heap.size X7a X7 := by rw [hX7]; exact bone _ _
    have eX7 : X7a.heap.size = X6.heap.size + 1 := by first | rfl | (rw [hX7a]; simp)
    have p12 : Pr X7 (X6.heap.size + 1) s12 A12 n12 c12 := by rw [← eX7, hX7]; exact Pr.new _ _ _ _ _
    (replace p2 := p2.call dbX7); (replace p3 := p3.call dbX7); (replace p4 := p4.call dbX7); (replace p5 := p5.call dbX7); (replace p6 := p6.call dbX7); (replace p7 := p7.call dbX7); (replace p8 := p8.call dbX7); (replace i2 := i2.call dbX7); (replace i3 := i3.call dbX7); (replace i7 := i7.call dbX7); (replace i8 := i8.call dbX7); (replace p11 := p11.call dbX7); (replace i11 := i11.call dbX7); (replace i12 := i12.call dbX7)
    replace hW := bthen hW dbX7
    go_upto_region 7 with (fail)
    rw [← hX7a, ← hX7]
    clear eX7 hX7 dbX7 eX7a hX7a dbX7a
    generalize X6.heap.size = g11 at *
    clear p12 i12
    obtain ⟨o11_0, o11_1⟩ := p11.cells1
    obtain ⟨o8_0, o8_1⟩ := p8.cells1
    go_wp2_with fail
    refine (refDivMod_ne _ i11.any i8.any (by omega) (by omega) hmz).mono ?_
    rintro e X8 ⟨s9, A9, n9, c9, s10, A10, n10, c10, rfl, j9, j10, dX8⟩
    (replace p2 := p2.call dX8); (replace p3 := p3.call dX8); (replace p4 := p4.call dX8); (replace p5 := p5.call dX8); (replace p6 := p6.call dX8); (replace p7 := p7.call dX8); (replace p8 := p8.call dX8); (replace p11 := p11.call dX8); (replace i2 := i2.call dX8); (replace i3 := i3.call dX8); (replace i7 := i7.call dX8); (replace i8 := i8.call dX8); (replace i11 := i11.call dX8)
    replace hW := bthen hW dX8
    clear o11_0 o11_1 o8_0 o8_1
    rw [HCC.out] at j10
    clear j9
    obtain ⟨q0, q1, f0, f1, k0, k1⟩ := p11.all (.bool s10) (.slice A10 n10 c10)
    have hW_ := below_stored hW (g := g11) (by omega) (.bool s10) (.slice A10 n10 c10)
    have p2_ := p2.far (g' := g11) (by omega) (.bool s10) (.slice A10 n10 c10)
    have p3_ := p3.far (g' := g11) (by omega) (.bool s10) (.slice A10 n10 c10)
    have p4_ := p4.far (g' := g11) (by omega) (.bool s10) (.slice A10 n10 c10)
    have p5_ := p5.far (g' := g11) (by omega) (.bool s10) (.slice A10 n10 c10)
    have p6_ := p6.far (g' := g11) (by omega) (.bool s10) (.slice A10 n10 c10)
    have p7_ := p7.far (g' := g11) (by omega) (.bool s10) (.slice A10 n10 c10)
    have p8_ := p8.far (g' := g11) (by omega) (.bool s10) (.slice A10 n10 c10)
    have p11_ := p11.stored (s' := s10) (A' := A10) (n' := n10) (c' := c10)
    have i2_ := i2.stored p11 (.bool s10) (.slice A10 n10 c10)
    have i3_ := i3.stored p11 (.bool s10) (.slice A10 n10 c10)
    have i7_ := i7.stored p11 (.bool s10) (.slice A10 n10 c10)
    have i8_ := i8.stored p11 (.bool s10) (.slice A10 n10 c10)
    have j10_ := j10.stored p11 (.bool s10) (.slice A10 n10 c10)
    go_upto_region 8 with (fail)
    clear q0 q1 f0 f1 k0 k1 hW i2 i3 i7 i8 j10 p2 p3 p4 p5 p6 p7 p8 p11 i11
    generalize (X8.setCell ⟨g11, 0, none⟩ (.bool s10)).setCell ⟨g11, 1, none⟩ (.slice A10 n10 c10) = X9 at *
    have hW := hW_; have i2 := i2_; have i3 := i3_; have i7 := i7_; have i8 := i8_; have j10 := j10_; have p2 := p2_; have p3 := p3_; have p4 := p4_; have p5 := p5_; have p6 := p6_; have p7 := p7_; have p8 := p8_; have p11 := p11_
    clear hW_ i2_ i3_ i7_ i8_ j10_ p2_ p3_ p4_ p5_ p6_ p7_ p8_ p11_
    go_upto_region 8 with (fail)
    go_cut [14, 15] (fun v14 v15 wz => ∃ gz14 gz15 : Nat, v14 = .pointer (some ⟨gz14, 0, none⟩) ∧ v15 = .pointer (some ⟨gz15, 0, none⟩) ∧ X9.heap.size ≤ gz14 ∧ X9.heap.size ≤ gz15 ∧ gz14 ≠ gz15 ∧ Hid (Bx wz gz14 ((m : Int)) ∧ Bx wz gz15 ((cc : Int)) ∧ Below X9.heap.size X9 wz))
    case first =>
     as_aux_lemma =>
      refine wp_region_held_drew (S := fun w' => Below X9.heap.size X9 w') (by kernel_rfl) (bdrew X9) (fun _ => ?_)
      have hS : Below X9.heap.size X9 X9.drew := bdrew X9
      generalize X9.drew = u0 at hS ⊢
      refine wpAnyH_take (i := 0) (oi := ⟨_, _, _, _, _, _⟩) (v := ?_) rfl (by kernel_rfl) (by kernel_rfl) (by kernel_rfl) (fun _ _ _ h => h) (Or.inl ⟨by rfl, ?_⟩) hS ?_
      rotate_left
      ·intro w' hS'; have p' := p8.call hS'; have c0 := p'.cell0; have c1 := p'.cell1; (first | (go_simp; done) | (go_simp; with_reducible rfl) | with_reducible rfl)
      (try simp only [Act.put, List.setIfInBounds_toArray, List.set_cons_zero, List.set_cons_succ])
      refine wpAnyH_take (i := 1) (oi := ⟨_, _, _, _, _, _⟩) (v := ?_) rfl (by kernel_rfl) (by kernel_rfl) (by kernel_rfl) (fun _ _ _ h => h) (Or.inl ⟨by rfl, ?_⟩) hS ?_
      rotate_left
      ·intro w' hS'; have p' := p11.call hS'; have c0 := p'.cell0; have c1 := p'.cell1; (first | (go_simp; done) | (go_simp; with_reducible rfl) | with_reducible rfl)
      (try simp only [Act.put, List.setIfInBounds_toArray, List.set_cons_zero, List.set_cons_succ])
      refine wpAnyH_ready (rs := [2, 3]) (by kernel_rfl) (by simp) ?_
      refine AllReadyH.cons (o := ⟨_, _, _, _, _, _⟩) rfl (fun K hK => ?_) (AllReadyH.cons (o := ⟨_, _, _, _, _, _⟩) rfl (fun K hK => ?_) AllReadyH.nil)
      ·go_simp
       have pz14 := Pr.new u0 false none 0 0
       have az := bone u0 (.cells #[.bool false, .slice none 0 0] 24)
       have hz14 := hS.size
       replace hS := bthen hS az
       refine hK.out _ _ hS (fun _ => ?_)
       clear hK K az
       generalize hgz : u0.heap.size = gz14 at hz14 pz14 ⊢
       clear hgz
       generalize u0.alloc (.cells #[.bool false, .slice none 0 0] 24) = u0z14 at *
       (try simp only [Act.put, List.setIfInBounds_toArray, List.set_cons_zero, List.set_cons_succ])
       refine wpAnyH_ready (rs := [3]) (by kernel_rfl) (by simp) ?_
       refine AllReadyH.cons (o := ⟨_, _, _, _, _, _⟩) rfl (fun K hK => ?_) AllReadyH.nil
       go_simp
       have pz15 := Pr.new u0z14 false none 0 0
       have az := bone u0z14 (.cells #[.bool false, .slice none 0 0] 24)
       have hz15 := hS.size
       have lt14_15 := pz14.lt
       replace hS := bthen hS az
       (replace pz14 := pz14.call az)
       refine hK.out _ _ hS (fun _ => ?_)
       clear hK K az
       generalize hgz : u0z14.heap.size = gz15 at hz15 pz15 ⊢ lt14_15
       clear hgz
       generalize u0z14.alloc (.cells #[.bool false, .slice none 0 0] 24) = u0z14z15 at *
       (try simp only [Act.put, List.setIfInBounds_toArray, List.set_cons_zero, List.set_cons_succ])
       refine wpAnyH_ready (rs := [4]) (by kernel_rfl) (by simp) ?_
       refine AllReadyH.cons (o := ⟨_, _, _, _, _, _⟩) rfl (fun K hK => ?_) AllReadyH.nil
       obtain ⟨q0, q1, f0, f1, k0, k1⟩ := pz14.all (.bool s8) (.slice A8 n8 c8)
       go_simp
       replace hS := below_stored hS hz14 (.bool s8) (.slice A8 n8 c8)
       refine hK.out _ _ hS (fun _ => ?_)
       clear hK K q0 q1 f0 f1 k0 k1
       replace pz15 := pz15.far (g' := gz14) (by omega) (.bool s8) (.slice A8 n8 c8)
       replace pz14 := pz14.stored (s' := s8) (A' := A8) (n' := n8) (c' := c8)
       (try simp only [Act.put, List.setIfInBounds_toArray, List.set_cons_zero, List.set_cons_succ])
       refine wpAnyH_ready (rs := [5]) (by kernel_rfl) (by simp) ?_
       refine AllReadyH.cons (o := ⟨_, _, _, _, _, _⟩) rfl (fun K hK => ?_) AllReadyH.nil
       obtain ⟨q0, q1, f0, f1, k0, k1⟩ := pz15.all (.bool s10) (.slice A10 n10 c10)
       go_simp
       replace hS := below_stored hS hz15 (.bool s10) (.slice A10 n10 c10)
       refine hK.out _ _ hS (fun _ => ?_)
       clear hK K q0 q1 f0 f1 k0 k1
       replace pz14 := pz14.far (g' := gz15) (by omega) (.bool s10) (.slice A10 n10 c10)
       replace pz15 := pz15.stored (s' := s10) (A' := A10) (n' := n10) (c' := c10)
       (try simp only [Act.put, List.setIfInBounds_toArray, List.set_cons_zero, List.set_cons_succ])
       refine wpAnyH_done (by kernel_rfl) ?_ _
       go_wp2_with fail
       go_meet
       case rel => exact ⟨gz14, gz15, rfl, rfl, hz14, hz15, by omega, ⟨_, _, _, _, pz14, (i8.call hS)⟩, ⟨_, _, _, _, pz15, (j10.call hS)⟩, hS⟩
      ·go_simp
       have pz15 := Pr.new u0 false none 0 0
       have az := bone u0 (.cells #[.bool false, .slice none 0 0] 24)
       have hz15 := hS.size
       replace hS := bthen hS az
       refine hK.out _ _ hS (fun _ => ?_)
       clear hK K az
       generalize hgz : u0.heap.size = gz15 at hz15 pz15 ⊢
       clear hgz
       generalize u0.alloc (.cells #[.bool false, .slice none 0 0] 24) = u0z15 at *
       (try simp only [Act.put, List.setIfInBounds_toArray, List.set_cons_zero, List.set_cons_succ])
       refine wpAnyH_ready (rs := [2]) (by kernel_rfl) (by simp) ?_
       refine AllReadyH.cons (o := ⟨_, _, _, _, _, _⟩) rfl (fun K hK => ?_) AllReadyH.nil
       go_simp
       have pz14 := Pr.new u0z15 false none 0 0
       have az := bone u0z15 (.cells #[.bool false, .slice none 0 0] 24)
       have hz14 := hS.size
       have lt15_14 := pz15.lt
       replace hS := bthen hS az
       (replace pz15 := pz15.call az)
       refine hK.out _ _ hS (fun _ => ?_)
       clear hK K az
       generalize hgz : u0z15.heap.size = gz14 at hz14 pz14 ⊢ lt15_14
       clear hgz
       generalize u0z15.alloc (.cells #[.bool false, .slice none 0 0] 24) = u0z15z14 at *
       (try simp only [Act.put, List.setIfInBounds_toArray, List.set_cons_zero, List.set_cons_succ])
       refine wpAnyH_ready (rs := [4]) (by kernel_rfl) (by simp) ?_
       refine AllReadyH.cons (o := ⟨_, _, _, _, _, _⟩) rfl (fun K hK => ?_) AllReadyH.nil
       obtain ⟨q0, q1, f0, f1, k0, k1⟩ := pz14.all (.bool s8) (.slice A8 n8 c8)
       go_simp
       replace hS := below_stored hS hz14 (.bool s8) (.slice A8 n8 c8)
       refine hK.out _ _ hS (fun _ => ?_)
       clear hK K q0 q1 f0 f1 k0 k1
       replace pz15 := pz15.far (g' := gz14) (by omega) (.bool s8) (.slice A8 n8 c8)
       replace pz14 := pz14.stored (s' := s8) (A' := A8) (n' := n8) (c' := c8)
       (try simp only [Act.put, List.setIfInBounds_toArray, List.set_cons_zero, List.set_cons_succ])
       refine wpAnyH_ready (rs := [5]) (by kernel_rfl) (by simp) ?_
       refine AllReadyH.cons (o := ⟨_, _, _, _, _, _⟩) rfl (fun K hK => ?_) AllReadyH.nil
       obtain ⟨q0, q1, f0, f1, k0, k1⟩ := pz15.all (.bool s10) (.slice A10 n10 c10)
       go_simp
       replace hS := below_stored hS hz15 (.bool s10) (.slice A10 n10 c10)
       refine hK.out _ _ hS (fun _ => ?_)
       clear hK K q0 q1 f0 f1 k0 k1
       replace pz14 := pz14.far (g' := gz15) (by omega) (.bool s10) (.slice A10 n10 c10)
       replace pz15 := pz15.stored (s' := s10) (A' := A10) (n' := n10) (c' := c10)
       (try simp only [Act.put, List.setIfInBounds_toArray, List.set_cons_zero, List.set_cons_succ])
       refine wpAnyH_done (by kernel_rfl) ?_ _
       go_wp2_with fail
       go_meet
       case rel => exact ⟨gz14, gz15, rfl, rfl, hz14, hz15, by omega, ⟨_, _, _, _, pz14, (i8.call hS)⟩, ⟨_, _, _, _, pz15, (j10.call hS)⟩, hS⟩
    case rest =>
     obtain ⟨g14, g15, rfl, rfl, ne8_0, ne8_1, ne8_2, HB⟩ := hcut
     obtain ⟨⟨s14, A14, n14, c14, p14, i14⟩, ⟨s15, A15, n15, c15, p15, i15⟩, dB⟩ := HB.out
     obtain ⟨X11, rfl⟩ : ∃ X : World, X = wc := ⟨_, rfl⟩
     have lt11_14 : g11 < g14 := by have := p11.lt; omega
     have lt11_15 : g11 < g15 := by have := p11.lt; omega
     (replace p2 := p2.call dB); (replace p3 := p3.call dB); (replace p4 := p4.call dB); (replace p5 := p5.call dB); (replace p6 := p6.call dB); (replace p7 := p7.call dB); (replace p8 := p8.call dB); (replace p11 := p11.call dB); (replace i2 := i2.call dB); (replace i3 := i3.call dB); (replace i7 := i7.call dB); (replace i8 := i8.call dB); (replace j10 := j10.call dB)
     replace hW := bthen hW dB
     clear HB dB ne8_0 ne8_1
     clear p11 j10
     go_wp2_with fail
     refine (refFromInt64_any 1 _ (by omega) (by omega)).mono ?_
     rintro e X12 ⟨s17, A17, n17, c17, rfl, i17, dX12⟩
     (replace p2 := p2.call dX12); (replace p3 := p3.call dX12); (replace p4 := p4.call dX12); (replace p5 := p5.call dX12); (replace p6 := p6.call dX12); (replace p7 := p7.call dX12); (replace p8 := p8.call dX12); (replace p14 := p14.call dX12); (replace p15 := p15.call dX12); (replace i2 := i2.call dX12); (replace i3 := i3.call dX12); (replace i7 := i7.call dX12); (replace i8 := i8.call dX12); (replace i14 := i14.call dX12); (replace i15 := i15.call dX12)
     replace hW := bthen hW dX12
     have i16 := CInt.zero X12
     have lt14_16 := p14.lt
     have lt15_16 := p15.lt
     obtain ⟨X13a, hX13a⟩ : ∃ Y, Y = X12.alloc (.cells #[.bool false, .slice none 0 0] 24) := ⟨_, rfl⟩
     have dbX13a : Below X12.heap.size X12 X13a := by rw [hX13a]; exact bone _ _
     have eX13a : X12.heap.size = X12.heap.size := by first | rfl | (rw [rfl]; simp)
     have p16 : Pr X13a (X12.heap.size) false none 0 0 := by rw [← eX13a, hX13a]; exact Pr.new _ _ _ _ _
     (replace p2 := p2.call dbX13a); (replace p3 := p3.call dbX13a); (replace p4 := p4.call dbX13a); (replace p5 := p5.call dbX13a); (replace p6 := p6.call dbX13a); (replace p7 := p7.call dbX13a); (replace p8 := p8.call dbX13a); (replace p14 := p14.call dbX13a); (replace p15 := p15.call dbX13a); (replace i2 := i2.call dbX13a); (replace i3 := i3.call dbX13a); (replace i7 := i7.call dbX13a); (replace i8 := i8.call dbX13a); (replace i14 := i14.call dbX13a); (replace i15 := i15.call dbX13a); (replace i16 := i16.call dbX13a); (replace i17 := i17.call dbX13a)
     replace hW := bthen hW dbX13a
     obtain ⟨X13, hX13⟩ : ∃ Y, Y = X13a.alloc (.cells #[.bool s17, .slice A17 n17 c17] 24) := ⟨_, rfl⟩
     have dbX13 : Below X13a.heap.size X13a X13 := by rw [hX13]; exact bone _ _
     have eX13 : X13a.heap.size = X12.heap.size + 1 := by first | rfl | (rw [hX13a]; simp)
     have p17 : Pr X13 (X12.heap.size + 1) s17 A17 n17 c17 := by rw [← eX13, hX13]; exact Pr.new _ _ _ _ _
     (replace p2 := p2.call dbX13); (replace p3 := p3.call dbX13); (replace p4 := p4.call dbX13); (replace p5 := p5.call dbX13); (replace p6 := p6.call dbX13); (replace p7 := p7.call dbX13); (replace p8 := p8.call dbX13); (replace p14 := p14.call dbX13); (replace p15 := p15.call dbX13); (replace i2 := i2.call dbX13); (replace i3 := i3.call dbX13); (replace i7 := i7.call dbX13); (replace i8 := i8.call dbX13); (replace i14 := i14.call dbX13); (replace i15 := i15.call dbX13); (replace p16 := p16.call dbX13); (replace i16 := i16.call dbX13); (replace i17 := i17.call dbX13)
     replace hW := bthen hW dbX13
     go_wp2_with fail
     rw [← hX13a, ← hX13]
     clear eX13 hX13 dbX13 eX13a hX13a dbX13a
     generalize X12.heap.size = g16 at *
     have HE : Hid (ExW w X13 g7 g8 g14 g15 g16 x y g m T cc) := ⟨m, 0, 1, HI.out, by omega, ⟨⟨_, _, _, _, p2, i2⟩, ⟨_, _, _, _, p3, i3⟩, p4, p5, p6, ⟨_, _, _, _, p7, i7⟩, ⟨_, _, _, _, p8, i8⟩, by omega, by omega⟩, ⟨_, _, _, _, p14, i14⟩, ⟨_, _, _, _, p15, i15⟩, ⟨_, _, _, _, p16, i16⟩, ⟨_, _, _, _, p17, i17⟩, hW⟩
     have v1 : w.heap.size + 1 + 1 + 1 + 1 < g7 := by omega
     have v2 : g7 < g8 := by omega
     have v3 : g8 < g14 := by omega
     have v4 : g8 < g15 := by omega
     have v5 : g14 ≠ g15 := by omega
     have v6 : g14 < g16 := by omega
     have v7 : g15 < g16 := by omega
     clear p2 i2 p3 i3 p4 p5 p6 p7 i7 p8 i8 p14 i14 p15 i15 p16 i16 p17 i17
     clear hW HI l2 l3 l7 l8 HEF1 HEF2 HCC LA
     go_loopg [18, 19, 20] cc (fun r1 _ _ _ wx => Hid (ExW w wx g7 g8 g14 g15 g16 x y g m T r1))
     case atStart => exact HE
     case round =>
      clear HE
      obtain ⟨r1, rfl⟩ : ∃ i, i = gk := ⟨_, rfl⟩
      obtain ⟨r0, z0, z1, hip, hrm, hx, ⟨s14, A14, n14, c14, p14, i14⟩, ⟨s15, A15, n15, c15, p15, i15⟩, ⟨s16, A16, n16, c16, p16, i16⟩, ⟨s17, A17, n17, c17, p17, i17⟩, hW⟩ := hrel.out
      have HP := Lib.hid hip
      have L0 := LM.le_abs hip.bound0
      have L1 := LM.le_abs hip.bound1
      have LR0 : Lim 64 (r0 : Int) := LM.le_abs (by have := hip.le; omega)
      have LR1 : Lim 64 (r1 : Int) := LM.le_abs (by omega)
      have l14 := i14.len LR0
      have l15 := i15.len LR1
      have l16 := i16.len L0
      have l17 := i17.len L1
      have hz15 := i15.len_zero
      clear hrel hip
      
      obtain ⟨o150, o151⟩ := p15.cells1
      by_cases h0 : r1 = 0
      ·have hn15 : n15 = 0 := hz15.2 (by omega)
       subst h0 hn15
       have hT := HP.out.fin
       subst hT
       have LP := LX.mul LUU
       obtain ⟨⟨s2, A2, n2, c2, p2, i2⟩, ⟨s3, A3, n3, c3, p3, i3⟩, p4, p5, p6, ⟨s7, A7, n7, c7, p7, i7⟩, ⟨s8, A8, n8, c8, p8, i8⟩, -, -⟩ := hx
       have l8 := i8.len LM
       have l2 := i2.len LX
       have l3 := i3.len LY
       have l7 := i7.len LG
       have LD := Lib.hid (Lim.sub (LG.mono (show 64 ≤ 64 + 64 by omega)) LP)
       clear hz15
       go_upto_region 14 with (fail)
       clear o150 o151
       clear p14 i14 p15 i15 p17 i17
       obtain ⟨o16_0, o16_1⟩ := p16.cells1
       obtain ⟨o8_0, o8_1⟩ := p8.cells1
       go_wp2_with fail
       refine (refDivMod_ne _ i16.any i8.any (by omega) (by omega) hmz).mono ?_
       rintro e Xh1 ⟨s21, A21, n21, c21, s22, A22, n22, c22, rfl, i21, i22, dXh1⟩
       (replace p2 := p2.call dXh1); (replace p3 := p3.call dXh1); (replace p4 := p4.call dXh1); (replace p5 := p5.call dXh1); (replace p6 := p6.call dXh1); (replace p7 := p7.call dXh1); (replace p8 := p8.call dXh1); (replace p16 := p16.call dXh1); (replace i2 := i2.call dXh1); (replace i3 := i3.call dXh1); (replace i7 := i7.call dXh1); (replace i8 := i8.call dXh1); (replace i16 := i16.call dXh1)
       replace hW := bthen hW dXh1
       clear o16_0 o16_1 o8_0 o8_1
       rw [← HX.out] at i22
       have lt2_21 := p2.lt
       have lt3_21 := p3.lt
       have lt4_21 := p4.lt
       have lt5_21 := p5.lt
       have lt6_21 := p6.lt
       have lt7_21 := p7.lt
       have lt8_21 := p8.lt
       have lt16_21 := p16.lt
       obtain ⟨Xh2a, hXh2a⟩ : ∃ Y, Y = Xh1.alloc (.cells #[.bool s21, .slice A21 n21 c21] 24) := ⟨_, rfl⟩
       have dbXh2a : Below Xh1.heap.size Xh1 Xh2a := by rw [hXh2a]; exact bone _ _
       have eXh2a : Xh1.heap.size = Xh1.heap.size := by first | rfl | (rw [rfl]; simp)
       have p21 : Pr Xh2a (Xh1.heap.size) s21 A21 n21 c21 := by rw [← eXh2a, hXh2a]; exact Pr.new _ _ _ _ _
       (replace p2 := p2.call dbXh2a); (replace p3 := p3.call dbXh2a); (replace p4 := p4.call dbXh2a); (replace p5 := p5.call dbXh2a); (replace p6 := p6.call dbXh2a); (replace p7 := p7.call dbXh2a); (replace p8 := p8.call dbXh2a); (replace p16 := p16.call dbXh2a); (replace i2 := i2.call dbXh2a); (replace i3 := i3.call dbXh2a); (replace i7 := i7.call dbXh2a); (replace i8 := i8.call dbXh2a); (replace i16 := i16.call dbXh2a); (replace i21 := i21.call dbXh2a); (replace i22 := i22.call dbXh2a)
       replace hW := bthen hW dbXh2a
       obtain ⟨Xh2, hXh2⟩ : ∃ Y, Y = Xh2a.alloc (.cells #[.bool s22, .slice A22 n22 c22] 24) := ⟨_, rfl⟩
       have dbXh2 : Below Xh2a.heap.size Xh2a Xh2 := by rw [hXh2]; exact bone _ _
       have eXh2 : Xh2a.heap.size = Xh1.heap.size + 1 := by first | rfl | (rw [hXh2a]; simp)
       have p22 : Pr Xh2 (Xh1.heap.size + 1) s22 A22 n22 c22 := by rw [← eXh2, hXh2]; exact Pr.new _ _ _ _ _
       (replace p2 := p2.call dbXh2); (replace p3 := p3.call dbXh2); (replace p4 := p4.call dbXh2); (replace p5 := p5.call dbXh2); (replace p6 := p6.call dbXh2); (replace p7 := p7.call dbXh2); (replace p8 := p8.call dbXh2); (replace p16 := p16.call dbXh2); (replace i2 := i2.call dbXh2); (replace i3 := i3.call dbXh2); (replace i7 := i7.call dbXh2); (replace i8 := i8.call dbXh2); (replace i16 := i16.call dbXh2); (replace p21 := p21.call dbXh2); (replace i21 := i21.call dbXh2); (replace i22 := i22.call dbXh2)
       replace hW := bthen hW dbXh2
       go_upto_region 15 with (fail)
       rw [← hXh2a, ← hXh2]
       clear eXh2 hXh2 dbXh2 eXh2a hXh2a dbXh2a
       generalize Xh1.heap.size = g21 at *
       have l22 := i22.len LUU
       clear p21 i21 p16 i16 p8 i8
       go_upto_region 15 with (fail)
       go_cut [24, 25] (fun v24 v25 wz => ∃ gz24 gz25 : Nat, v24 = .pointer (some ⟨gz24, 0, none⟩) ∧ v25 = .pointer (some ⟨gz25, 0, none⟩) ∧ Xh2.heap.size ≤ gz24 ∧ Xh2.heap.size ≤ gz25 ∧ gz24 ≠ gz25 ∧ Hid (Bx wz gz24 (((g : Int) - x * xx).fdiv y) ∧ Bx wz gz25 (((g : Int) - x * xx).fmod y) ∧ Below Xh2.heap.size Xh2 wz))
       case first =>
        as_aux_lemma =>
         refine wp_region_held_drew (S := fun w' => Below Xh2.heap.size Xh2 w') (by kernel_rfl) (bdrew Xh2) (fun _ => ?_)
         have hS : Below Xh2.heap.size Xh2 Xh2.drew := bdrew Xh2
         generalize Xh2.drew = u0 at hS ⊢
         refine wpAnyH_take (i := 0) (oi := ⟨_, _, _, _, _, _⟩) (v := ?_) rfl (by kernel_rfl) (by kernel_rfl) (by kernel_rfl) (fun _ _ _ h => h) (Or.inl ⟨by rfl, ?_⟩) hS ?_
         rotate_left
         ·intro w' hS'; have p' := p7.call hS'; have c0 := p'.cell0; have c1 := p'.cell1; (first | (go_simp; done) | (go_simp; with_reducible rfl) | with_reducible rfl)
         (try simp only [Act.put, List.setIfInBounds_toArray, List.set_cons_zero, List.set_cons_succ])
         refine wpAnyH_take (i := 1) (oi := ⟨_, _, _, _, _, _⟩) (v := ?_) rfl (by kernel_rfl) (by kernel_rfl) (by kernel_rfl) (fun _ _ _ h => h) (Or.inl ⟨by rfl, ?_⟩) hS ?_
         rotate_left
         ·intro w' hS'; have p' := p2.call hS'; have c0 := p'.cell0; have c1 := p'.cell1; (first | (go_simp; done) | (go_simp; with_reducible rfl) | with_reducible rfl)
         (try simp only [Act.put, List.setIfInBounds_toArray, List.set_cons_zero, List.set_cons_succ])
         refine wpAnyH_take (i := 2) (oi := ⟨_, _, _, _, _, _⟩) (v := ?_) rfl (by kernel_rfl) (by kernel_rfl) (by kernel_rfl) (fun _ _ _ h => h) (Or.inl ⟨by rfl, ?_⟩) hS ?_
         rotate_left
         ·intro w' hS'; have p' := p22.call hS'; have c0 := p'.cell0; have c1 := p'.cell1; (first | (go_simp; done) | (go_simp; with_reducible rfl) | with_reducible rfl)
         (try simp only [Act.put, List.setIfInBounds_toArray, List.set_cons_zero, List.set_cons_succ])
         refine wpAnyH_take (i := 5) (oi := ⟨_, _, _, _, _, _⟩) (v := ?_) rfl (by kernel_rfl) (by kernel_rfl) (by kernel_rfl) (fun _ _ _ h => h) (Or.inl ⟨by rfl, ?_⟩) hS ?_
         rotate_left
         ·intro w' hS'; have p' := p3.call hS'; have c0 := p'.cell0; have c1 := p'.cell1; (first | (go_simp; done) | (go_simp; with_reducible rfl) | with_reducible rfl)
         (try simp only [Act.put, List.setIfInBounds_toArray, List.set_cons_zero, List.set_cons_succ])
         refine wpAnyH_ready (rs := [3, 11, 12]) (by kernel_rfl) (by simp) ?_
         refine AllReadyH.cons (o := ⟨_, _, _, _, _, _⟩) rfl (fun K hK => ?_) (AllReadyH.cons (o := ⟨_, _, _, _, _, _⟩) rfl (fun K hK => ?_) (AllReadyH.cons (o := ⟨_, _, _, _, _, _⟩) rfl (fun K hK => ?_) AllReadyH.nil))
         ·go_simp
          refine (refMul_any _ (i2.call hS).any (i22.call hS).any (by omega) (by omega)).mono ?_
          rintro e u1 ⟨t1, B1, m1, e1, rfl, j1, d1⟩
          replace hS := bthen hS d1
          first | (with_reducible refine hK.out _ _ hS (fun _ => ?_)) | (go_wp2_with fail; with_reducible refine hK.out _ _ hS (fun _ => ?_))
          clear hK K
          (try simp only [Act.put, List.setIfInBounds_toArray, List.set_cons_zero, List.set_cons_succ])
          refine wpAnyH_ready (rs := [4, 11, 12]) (by kernel_rfl) (by simp) ?_
          refine AllReadyH.cons (o := ⟨_, _, _, _, _, _⟩) rfl (fun K hK => ?_) (AllReadyH.cons (o := ⟨_, _, _, _, _, _⟩) rfl (fun K hK => ?_) (AllReadyH.cons (o := ⟨_, _, _, _, _, _⟩) rfl (fun K hK => ?_) AllReadyH.nil))
          ·go_simp
           refine (refSub_any _ (i7.call hS).any j1.any (by omega) (Nat.le_trans (j1.len LP) (by omega))).mono ?_
           rintro e u2 ⟨t2, B2, m2, e2, rfl, j2, d2⟩
           replace hS := bthen hS d2
           (replace j1 := j1.call d2)
           first | (with_reducible refine hK.out _ _ hS (fun _ => ?_)) | (go_wp2_with fail; with_reducible refine hK.out _ _ hS (fun _ => ?_))
           clear hK K
           (try simp only [Act.put, List.setIfInBounds_toArray, List.set_cons_zero, List.set_cons_succ])
           refine wpAnyH_ready (rs := [6, 11, 12]) (by kernel_rfl) (by simp) ?_
           refine AllReadyH.cons (o := ⟨_, _, _, _, _, _⟩) rfl (fun K hK => ?_) (AllReadyH.cons (o := ⟨_, _, _, _, _, _⟩) rfl (fun K hK => ?_) (AllReadyH.cons (o := ⟨_, _, _, _, _, _⟩) rfl (fun K hK => ?_) AllReadyH.nil))
           ·go_simp
            refine (refDivMod_ne _ j2.any (i3.call hS).any (Nat.le_trans (j2.len LD.out) (by omega)) (by omega) hy).mono ?_
            rintro e u3 ⟨t3, B3, m3, e3, t4, B4, m4, e4, rfl, j3, j4, d3⟩
            replace hS := bthen hS d3
            (replace j1 := j1.call d3); (replace j2 := j2.call d3)
            first | (with_reducible refine hK.out _ _ hS (fun _ => ?_)) | (go_wp2_with fail; with_reducible refine hK.out _ _ hS (fun _ => ?_))
            clear hK K
            (try simp only [Act.put, List.setIfInBounds_toArray, List.set_cons_zero, List.set_cons_succ])
            refine wpAnyH_take (i := 7) (oi := ⟨_, _, _, _, _, _⟩) (v := ?_) rfl (by kernel_rfl) (by kernel_rfl) (by kernel_rfl) (fun _ _ _ h => h) (Or.inl ⟨by rfl, ?_⟩) hS ?_
            rotate_left
            ·intro w' hS'; (first | (go_simp; done) | (go_simp; with_reducible rfl) | with_reducible rfl)
            (try simp only [Act.put, List.setIfInBounds_toArray, List.set_cons_zero, List.set_cons_succ])
            refine wpAnyH_take (i := 8) (oi := ⟨_, _, _, _, _, _⟩) (v := ?_) rfl (by kernel_rfl) (by kernel_rfl) (by kernel_rfl) (fun _ _ _ h => h) (Or.inl ⟨by rfl, ?_⟩) hS ?_
            rotate_left
            ·intro w' hS'; (first | (go_simp; done) | (go_simp; with_reducible rfl) | with_reducible rfl)
            (try simp only [Act.put, List.setIfInBounds_toArray, List.set_cons_zero, List.set_cons_succ])
            refine wpAnyH_take (i := 9) (oi := ⟨_, _, _, _, _, _⟩) (v := ?_) rfl (by kernel_rfl) (by kernel_rfl) (by kernel_rfl) (fun _ _ _ h => h) (Or.inl ⟨by rfl, ?_⟩) hS ?_
            rotate_left
            ·intro w' hS'; (first | (go_simp; done) | (go_simp; with_reducible rfl) | with_reducible rfl)
            (try simp only [Act.put, List.setIfInBounds_toArray, List.set_cons_zero, List.set_cons_succ])
            refine wpAnyH_take (i := 10) (oi := ⟨_, _, _, _, _, _⟩) (v := ?_) rfl (by kernel_rfl) (by kernel_rfl) (by kernel_rfl) (fun _ _ _ h => h) (Or.inl ⟨by rfl, ?_⟩) hS ?_
            rotate_left
            ·intro w' hS'; (first | (go_simp; done) | (go_simp; with_reducible rfl) | with_reducible rfl)
            (try simp only [Act.put, List.setIfInBounds_toArray, List.set_cons_zero, List.set_cons_succ])
            refine wpAnyH_ready (rs := [11, 12]) (by kernel_rfl) (by simp) ?_
            refine AllReadyH.cons (o := ⟨_, _, _, _, _, _⟩) rfl (fun K hK => ?_) (AllReadyH.cons (o := ⟨_, _, _, _, _, _⟩) rfl (fun K hK => ?_) AllReadyH.nil)
            ·go_simp
             have pz24 := Pr.new u3 false none 0 0
             have az := bone u3 (.cells #[.bool false, .slice none 0 0] 24)
             have hz24 := hS.size
             replace hS := bthen hS az
             (replace j1 := j1.call az); (replace j2 := j2.call az); (replace j3 := j3.call az); (replace j4 := j4.call az)
             refine hK.out _ _ hS (fun _ => ?_)
             clear hK K az
             generalize hgz : u3.heap.size = gz24 at hz24 pz24 ⊢
             clear hgz
             generalize u3.alloc (.cells #[.bool false, .slice none 0 0] 24) = u3z24 at *
             (try simp only [Act.put, List.setIfInBounds_toArray, List.set_cons_zero, List.set_cons_succ])
             refine wpAnyH_ready (rs := [12]) (by kernel_rfl) (by simp) ?_
             refine AllReadyH.cons (o := ⟨_, _, _, _, _, _⟩) rfl (fun K hK => ?_) AllReadyH.nil
             go_simp
             have pz25 := Pr.new u3z24 false none 0 0
             have az := bone u3z24 (.cells #[.bool false, .slice none 0 0] 24)
             have hz25 := hS.size
             have lt24_25 := pz24.lt
             replace hS := bthen hS az
             (replace j1 := j1.call az); (replace j2 := j2.call az); (replace j3 := j3.call az); (replace j4 := j4.call az); (replace pz24 := pz24.call az)
             refine hK.out _ _ hS (fun _ => ?_)
             clear hK K az
             generalize hgz : u3z24.heap.size = gz25 at hz25 pz25 ⊢ lt24_25
             clear hgz
             generalize u3z24.alloc (.cells #[.bool false, .slice none 0 0] 24) = u3z24z25 at *
             (try simp only [Act.put, List.setIfInBounds_toArray, List.set_cons_zero, List.set_cons_succ])
             refine wpAnyH_ready (rs := [13]) (by kernel_rfl) (by simp) ?_
             refine AllReadyH.cons (o := ⟨_, _, _, _, _, _⟩) rfl (fun K hK => ?_) AllReadyH.nil
             obtain ⟨q0, q1, f0, f1, k0, k1⟩ := pz24.all (.bool t3) (.slice B3 m3 e3)
             go_simp
             replace hS := below_stored hS hz24 (.bool t3) (.slice B3 m3 e3)
             refine hK.out _ _ hS (fun _ => ?_)
             clear hK K q0 q1 f0 f1 k0 k1
             replace j1 := j1.stored pz24 (.bool t3) (.slice B3 m3 e3)
             replace j2 := j2.stored pz24 (.bool t3) (.slice B3 m3 e3)
             replace j3 := j3.stored pz24 (.bool t3) (.slice B3 m3 e3)
             replace j4 := j4.stored pz24 (.bool t3) (.slice B3 m3 e3)
             replace pz25 := pz25.far (g' := gz24) (by omega) (.bool t3) (.slice B3 m3 e3)
             replace pz24 := pz24.stored (s' := t3) (A' := B3) (n' := m3) (c' := e3)
             (try simp only [Act.put, List.setIfInBounds_toArray, List.set_cons_zero, List.set_cons_succ])
             refine wpAnyH_ready (rs := [14]) (by kernel_rfl) (by simp) ?_
             refine AllReadyH.cons (o := ⟨_, _, _, _, _, _⟩) rfl (fun K hK => ?_) AllReadyH.nil
             obtain ⟨q0, q1, f0, f1, k0, k1⟩ := pz25.all (.bool t4) (.slice B4 m4 e4)
             go_simp
             replace hS := below_stored hS hz25 (.bool t4) (.slice B4 m4 e4)
             refine hK.out _ _ hS (fun _ => ?_)
             clear hK K q0 q1 f0 f1 k0 k1
             replace j1 := j1.stored pz25 (.bool t4) (.slice B4 m4 e4)
             replace j2 := j2.stored pz25 (.bool t4) (.slice B4 m4 e4)
             replace j3 := j3.stored pz25 (.bool t4) (.slice B4 m4 e4)
             replace j4 := j4.stored pz25 (.bool t4) (.slice B4 m4 e4)
             replace pz24 := pz24.far (g' := gz25) (by omega) (.bool t4) (.slice B4 m4 e4)
             replace pz25 := pz25.stored (s' := t4) (A' := B4) (n' := m4) (c' := e4)
             (try simp only [Act.put, List.setIfInBounds_toArray, List.set_cons_zero, List.set_cons_succ])
             refine wpAnyH_take (i := 15) (oi := ⟨_, _, _, _, _, _⟩) (v := ?_) rfl (by kernel_rfl) (by kernel_rfl) (by kernel_rfl) (fun _ _ _ h => h) (Or.inl ⟨by rfl, ?_⟩) hS ?_
             rotate_left
             ·intro w' hS'; (first | (go_simp; done) | (go_simp; with_reducible rfl) | with_reducible rfl)
             (try simp only [Act.put, List.setIfInBounds_toArray, List.set_cons_zero, List.set_cons_succ])
             refine wpAnyH_done (by kernel_rfl) ?_ _
             go_wp2_with fail
             go_meet
             case rel => exact ⟨gz24, gz25, rfl, rfl, hz24, hz25, by omega, ⟨_, _, _, _, pz24, j3⟩, ⟨_, _, _, _, pz25, j4⟩, hS⟩
            ·go_simp
             have pz25 := Pr.new u3 false none 0 0
             have az := bone u3 (.cells #[.bool false, .slice none 0 0] 24)
             have hz25 := hS.size
             replace hS := bthen hS az
             (replace j1 := j1.call az); (replace j2 := j2.call az); (replace j3 := j3.call az); (replace j4 := j4.call az)
             refine hK.out _ _ hS (fun _ => ?_)
             clear hK K az
             generalize hgz : u3.heap.size = gz25 at hz25 pz25 ⊢
             clear hgz
             generalize u3.alloc (.cells #[.bool false, .slice none 0 0] 24) = u3z25 at *
             (try simp only [Act.put, List.setIfInBounds_toArray, List.set_cons_zero, List.set_cons_succ])
             refine wpAnyH_ready (rs := [11]) (by kernel_rfl) (by simp) ?_
             refine AllReadyH.cons (o := ⟨_, _, _, _, _, _⟩) rfl (fun K hK => ?_) AllReadyH.nil
             go_simp
             have pz24 := Pr.new u3z25 false none 0 0
             have az := bone u3z25 (.cells #[.bool false, .slice none 0 0] 24)
             have hz24 := hS.size
             have lt25_24 := pz25.lt
             replace hS := bthen hS az
             (replace j1 := j1.call az); (replace j2 := j2.call az); (replace j3 := j3.call az); (replace j4 := j4.call az); (replace pz25 := pz25.call az)
             refine hK.out _ _ hS (fun _ => ?_)
             clear hK K az
             generalize hgz : u3z25.heap.size = gz24 at hz24 pz24 ⊢ lt25_24
             clear hgz
             generalize u3z25.alloc (.cells #[.bool false, .slice none 0 0] 24) = u3z25z24 at *
             (try simp only [Act.put, List.setIfInBounds_toArray, List.set_cons_zero, List.set_cons_succ])
             refine wpAnyH_ready (rs := [13]) (by kernel_rfl) (by simp) ?_
             refine AllReadyH.cons (o := ⟨_, _, _, _, _, _⟩) rfl (fun K hK => ?_) AllReadyH.nil
             obtain ⟨q0, q1, f0, f1, k0, k1⟩ := pz24.all (.bool t3) (.slice B3 m3 e3)
             go_simp
             replace hS := below_stored hS hz24 (.bool t3) (.slice B3 m3 e3)
             refine hK.out _ _ hS (fun _ => ?_)
             clear hK K q0 q1 f0 f1 k0 k1
             replace j1 := j1.stored pz24 (.bool t3) (.slice B3 m3 e3)
             replace j2 := j2.stored pz24 (.bool t3) (.slice B3 m3 e3)
             replace j3 := j3.stored pz24 (.bool t3) (.slice B3 m3 e3)
             replace j4 := j4.stored pz24 (.bool t3) (.slice B3 m3 e3)
             replace pz25 := pz25.far (g' := gz24) (by omega) (.bool t3) (.slice B3 m3 e3)
             replace pz24 := pz24.stored (s' := t3) (A' := B3) (n' := m3) (c' := e3)
             (try simp only [Act.put, List.setIfInBounds_toArray, List.set_cons_zero, List.set_cons_succ])
             refine wpAnyH_ready (rs := [14]) (by kernel_rfl) (by simp) ?_
             refine AllReadyH.cons (o := ⟨_, _, _, _, _, _⟩) rfl (fun K hK => ?_) AllReadyH.nil
             obtain ⟨q0, q1, f0, f1, k0, k1⟩ := pz25.all (.bool t4) (.slice B4 m4 e4)
             go_simp
             replace hS := below_stored hS hz25 (.bool t4) (.slice B4 m4 e4)
             refine hK.out _ _ hS (fun _ => ?_)
             clear hK K q0 q1 f0 f1 k0 k1
             replace j1 := j1.stored pz25 (.bool t4) (.slice B4 m4 e4)
             replace j2 := j2.stored pz25 (.bool t4) (.slice B4 m4 e4)
             replace j3 := j3.stored pz25 (.bool t4) (.slice B4 m4 e4)
             replace j4 := j4.stored pz25 (.bool t4) (.slice B4 m4 e4)
             replace pz24 := pz24.far (g' := gz25) (by omega) (.bool t4) (.slice B4 m4 e4)
             replace pz25 := pz25.stored (s' := t4) (A' := B4) (n' := m4) (c' := e4)
             (try simp only [Act.put, List.setIfInBounds_toArray, List.set_cons_zero, List.set_cons_succ])
             refine wpAnyH_take (i := 15) (oi := ⟨_, _, _, _, _, _⟩) (v := ?_) rfl (by kernel_rfl) (by kernel_rfl) (by kernel_rfl) (fun _ _ _ h => h) (Or.inl ⟨by rfl, ?_⟩) hS ?_
             rotate_left
             ·intro w' hS'; (first | (go_simp; done) | (go_simp; with_reducible rfl) | with_reducible rfl)
             (try simp only [Act.put, List.setIfInBounds_toArray, List.set_cons_zero, List.set_cons_succ])
             refine wpAnyH_done (by kernel_rfl) ?_ _
             go_wp2_with fail
             go_meet
             case rel => exact ⟨gz24, gz25, rfl, rfl, hz24, hz25, by omega, ⟨_, _, _, _, pz24, j3⟩, ⟨_, _, _, _, pz25, j4⟩, hS⟩
           ·go_simp
            have pz24 := Pr.new u2 false none 0 0
            have az := bone u2 (.cells #[.bool false, .slice none 0 0] 24)
            have hz24 := hS.size
            replace hS := bthen hS az
            (replace j1 := j1.call az); (replace j2 := j2.call az)
            refine hK.out _ _ hS (fun _ => ?_)
            clear hK K az
            generalize hgz : u2.heap.size = gz24 at hz24 pz24 ⊢
            clear hgz
            generalize u2.alloc (.cells #[.bool false, .slice none 0 0] 24) = u2z24 at *
            (try simp only [Act.put, List.setIfInBounds_toArray, List.set_cons_zero, List.set_cons_succ])
            refine wpAnyH_ready (rs := [6, 12]) (by kernel_rfl) (by simp) ?_
            refine AllReadyH.cons (o := ⟨_, _, _, _, _, _⟩) rfl (fun K hK => ?_) (AllReadyH.cons (o := ⟨_, _, _, _, _, _⟩) rfl (fun K hK => ?_) AllReadyH.nil)
            ·go_simp
             refine (refDivMod_ne _ j2.any (i3.call hS).any (Nat.le_trans (j2.len LD.out) (by omega)) (by omega) hy).mono ?_
             rintro e u3 ⟨t3, B3, m3, e3, t4, B4, m4, e4, rfl, j3, j4, d3⟩
             replace hS := bthen hS d3
             (replace j1 := j1.call d3); (replace j2 := j2.call d3); (replace pz24 := pz24.call d3)
             first | (with_reducible refine hK.out _ _ hS (fun _ => ?_)) | (go_wp2_with fail; with_reducible refine hK.out _ _ hS (fun _ => ?_))
             clear hK K
             (try simp only [Act.put, List.setIfInBounds_toArray, List.set_cons_zero, List.set_cons_succ])
             refine wpAnyH_take (i := 7) (oi := ⟨_, _, _, _, _, _⟩) (v := ?_) rfl (by kernel_rfl) (by kernel_rfl) (by kernel_rfl) (fun _ _ _ h => h) (Or.inl ⟨by rfl, ?_⟩) hS ?_
             rotate_left
             ·intro w' hS'; (first | (go_simp; done) | (go_simp; with_reducible rfl) | with_reducible rfl)
             (try simp only [Act.put, List.setIfInBounds_toArray, List.set_cons_zero, List.set_cons_succ])
             refine wpAnyH_take (i := 8) (oi := ⟨_, _, _, _, _, _⟩) (v := ?_) rfl (by kernel_rfl) (by kernel_rfl) (by kernel_rfl) (fun _ _ _ h => h) (Or.inl ⟨by rfl, ?_⟩) hS ?_
             rotate_left
             ·intro w' hS'; (first | (go_simp; done) | (go_simp; with_reducible rfl) | with_reducible rfl)
             (try simp only [Act.put, List.setIfInBounds_toArray, List.set_cons_zero, List.set_cons_succ])
             refine wpAnyH_take (i := 9) (oi := ⟨_, _, _, _, _, _⟩) (v := ?_) rfl (by kernel_rfl) (by kernel_rfl) (by kernel_rfl) (fun _ _ _ h => h) (Or.inl ⟨by rfl, ?_⟩) hS ?_
             rotate_left
             ·intro w' hS'; (first | (go_simp; done) | (go_simp; with_reducible rfl) | with_reducible rfl)
             (try simp only [Act.put, List.setIfInBounds_toArray, List.set_cons_zero, List.set_cons_succ])
             refine wpAnyH_take (i := 10) (oi := ⟨_, _, _, _, _, _⟩) (v := ?_) rfl (by kernel_rfl) (by kernel_rfl) (by kernel_rfl) (fun _ _ _ h => h) (Or.inl ⟨by rfl, ?_⟩) hS ?_
             rotate_left
             ·intro w' hS'; (first | (go_simp; done) | (go_simp; with_reducible rfl) | with_reducible rfl)
             (try simp only [Act.put, List.setIfInBounds_toArray, List.set_cons_zero, List.set_cons_succ])
             refine wpAnyH_ready (rs := [12]) (by kernel_rfl) (by simp) ?_
             refine AllReadyH.cons (o := ⟨_, _, _, _, _, _⟩) rfl (fun K hK => ?_) AllReadyH.nil
             go_simp
             have pz25 := Pr.new u3 false none 0 0
             have az := bone u3 (.cells #[.bool false, .slice none 0 0] 24)
             have hz25 := hS.size
             have lt24_25 := pz24.lt
             replace hS := bthen hS az
             (replace j1 := j1.call az); (replace j2 := j2.call az); (replace j3 := j3.call az); (replace j4 := j4.call az); (replace pz24 := pz24.call az)
             refine hK.out _ _ hS (fun _ => ?_)
             clear hK K az
             generalize hgz : u3.heap.size = gz25 at hz25 pz25 ⊢ lt24_25
             clear hgz
             generalize u3.alloc (.cells #[.bool false, .slice none 0 0] 24) = u3z25 at *
             (try simp only [Act.put, List.setIfInBounds_toArray, List.set_cons_zero, List.set_cons_succ])
             refine wpAnyH_ready (rs := [13]) (by kernel_rfl) (by simp) ?_
             refine AllReadyH.cons (o := ⟨_, _, _, _, _, _⟩) rfl (fun K hK => ?_) AllReadyH.nil
             obtain ⟨q0, q1, f0, f1, k0, k1⟩ := pz24.all (.bool t3) (.slice B3 m3 e3)
             go_simp
             replace hS := below_stored hS hz24 (.bool t3) (.slice B3 m3 e3)
             refine hK.out _ _ hS (fun _ => ?_)
             clear hK K q0 q1 f0 f1 k0 k1
             replace j1 := j1.stored pz24 (.bool t3) (.slice B3 m3 e3)
             replace j2 := j2.stored pz24 (.bool t3) (.slice B3 m3 e3)
             replace j3 := j3.stored pz24 (.bool t3) (.slice B3 m3 e3)
             replace j4 := j4.stored pz24 (.bool t3) (.slice B3 m3 e3)
             replace pz25 := pz25.far (g' := gz24) (by omega) (.bool t3) (.slice B3 m3 e3)
             replace pz24 := pz24.stored (s' := t3) (A' := B3) (n' := m3) (c' := e3)
             (try simp only [Act.put, List.setIfInBounds_toArray, List.set_cons_zero, List.set_cons_succ])
             refine wpAnyH_ready (rs := [14]) (by kernel_rfl) (by simp) ?_
             refine AllReadyH.cons (o := ⟨_, _, _, _, _, _⟩) rfl (fun K hK => ?_) AllReadyH.nil
             obtain ⟨q0, q1, f0, f1, k0, k1⟩ := pz25.all (.bool t4) (.slice B4 m4 e4)
             go_simp
             replace hS := below_stored hS hz25 (.bool t4) (.slice B4 m4 e4)
             refine hK.out _ _ hS (fun _ => ?_)
             clear hK K q0 q1 f0 f1 k0 k1
             replace j1 := j1.stored pz25 (.bool t4) (.slice B4 m4 e4)
             replace j2 := j2.stored pz25 (.bool t4) (.slice B4 m4 e4)
             replace j3 := j3.stored pz25 (.bool t4) (.slice B4 m4 e4)
             replace j4 := j4.stored pz25 (.bool t4) (.slice B4 m4 e4)
             replace pz24 := pz24.far (g' := gz25) (by omega) (.bool t4) (.slice B4 m4 e4)
             replace pz25 := pz25.stored (s' := t4) (A' := B4) (n' := m4) (c' := e4)
             (try simp only [Act.put, List.setIfInBounds_toArray, List.set_cons_zero, List.set_cons_succ])
             refine wpAnyH_take (i := 15) (oi := ⟨_, _, _, _, _, _⟩) (v := ?_) rfl (by kernel_rfl) (by kernel_rfl) (by kernel_rfl) (fun _ _ _ h => h) (Or.inl ⟨by rfl, ?_⟩) hS ?_
             rotate_left
             ·intro w' hS'; (first | (go_simp; done) | (go_simp; with_reducible rfl) | with_reducible rfl)
             (try simp only [Act.put, List.setIfInBounds_toArray, List.set_cons_zero, List.set_cons_succ])
             refine wpAnyH_done (by kernel_rfl) ?_ _
             go_wp2_with fail
             go_meet
             case rel => exact ⟨gz24, gz25, rfl, rfl, hz24, hz25, by omega, ⟨_, _, _, _, pz24, j3⟩, ⟨_, _, _, _, pz25, j4⟩, hS⟩
            ·go_simp
             have pz25 := Pr.new u2z24 false none 0 0
             have az := bone u2z24 (.cells #[.bool false, .slice none 0 0] 24)
             have hz25 := hS.size
             have lt24_25 := pz24.lt
             replace hS := bthen hS az
             (replace j1 := j1.call az); (replace j2 := j2.call az); (replace pz24 := pz24.call az)
             refine hK.out _ _ hS (fun _ => ?_)
             clear hK K az
             generalize hgz : u2z24.heap.size = gz25 at hz25 pz25 ⊢ lt24_25
             clear hgz
             generalize u2z24.alloc (.cells #[.bool false, .slice none 0 0] 24) = u2z24z25 at *
             (try simp only [Act.put, List.setIfInBounds_toArray, List.set_cons_zero, List.set_cons_succ])
             refine wpAnyH_ready (rs := [6]) (by kernel_rfl) (by simp) ?_
             refine AllReadyH.cons (o := ⟨_, _, _, _, _, _⟩) rfl (fun K hK => ?_) AllReadyH.nil
             go_simp
             refine (refDivMod_ne _ j2.any (i3.call hS).any (Nat.le_trans (j2.len LD.out) (by omega)) (by omega) hy).mono ?_
             rintro e u3 ⟨t3, B3, m3, e3, t4, B4, m4, e4, rfl, j3, j4, d3⟩
             replace hS := bthen hS d3
             (replace j1 := j1.call d3); (replace j2 := j2.call d3); (replace pz24 := pz24.call d3); (replace pz25 := pz25.call d3)
             first | (with_reducible refine hK.out _ _ hS (fun _ => ?_)) | (go_wp2_with fail; with_reducible refine hK.out _ _ hS (fun _ => ?_))
             clear hK K
             (try simp only [Act.put, List.setIfInBounds_toArray, List.set_cons_zero, List.set_cons_succ])
             refine wpAnyH_take (i := 7) (oi := ⟨_, _, _, _, _, _⟩) (v := ?_) rfl (by kernel_rfl) (by kernel_rfl) (by kernel_rfl) (fun _ _ _ h => h) (Or.inl ⟨by rfl, ?_⟩) hS ?_
             rotate_left
             ·intro w' hS'; (first | (go_simp; done) | (go_simp; with_reducible rfl) | with_reducible rfl)
             (try simp only [Act.put, List.setIfInBounds_toArray, List.set_cons_zero, List.set_cons_succ])
             refine wpAnyH_take (i := 8) (oi := ⟨_, _, _, _, _, _⟩) (v := ?_) rfl (by kernel_rfl) (by kernel_rfl) (by kernel_rfl) (fun _ _ _ h => h) (Or.inl ⟨by rfl, ?_⟩) hS ?_
             rotate_left
             ·intro w' hS'; (first | (go_simp; done) | (go_simp; with_reducible rfl) | with_reducible rfl)
             (try simp only [Act.put, List.setIfInBounds_toArray, List.set_cons_zero, List.set_cons_succ])
             refine wpAnyH_take (i := 9) (oi := ⟨_, _, _, _, _, _⟩) (v := ?_) rfl (by kernel_rfl) (by kernel_rfl) (by kernel_rfl) (fun _ _ _ h => h) (Or.inl ⟨by rfl, ?_⟩) hS ?_
             rotate_left
             ·intro w' hS'; (first | (go_simp; done) | (go_simp; with_reducible rfl) | with_reducible rfl)
             (try simp only [Act.put, List.setIfInBounds_toArray, List.set_cons_zero, List.set_cons_succ])
             refine wpAnyH_take (i := 10) (oi := ⟨_, _, _, _, _, _⟩) (v := ?_) rfl (by kernel_rfl) (by kernel_rfl) (by kernel_rfl) (fun _ _ _ h => h) (Or.inl ⟨by rfl, ?_⟩) hS ?_
             rotate_left
             ·intro w' hS'; (first | (go_simp; done) | (go_simp; with_reducible rfl) | with_reducible rfl)
             (try simp only [Act.put, List.setIfInBounds_toArray, List.set_cons_zero, List.set_cons_succ])
             refine wpAnyH_ready (rs := [13]) (by kernel_rfl) (by simp) ?_
             refine AllReadyH.cons (o := ⟨_, _, _, _, _, _⟩) rfl (fun K hK => ?_) AllReadyH.nil
             obtain ⟨q0, q1, f0, f1, k0, k1⟩ := pz24.all (.bool t3) (.slice B3 m3 e3)
             go_simp
             replace hS := below_stored hS hz24 (.bool t3) (.slice B3 m3 e3)
             refine hK.out _ _ hS (fun _ => ?_)
             clear hK K q0 q1 f0 f1 k0 k1
             replace j1 := j1.stored pz24 (.bool t3) (.slice B3 m3 e3)
             replace j2 := j2.stored pz24 (.bool t3) (.slice B3 m3 e3)
             replace j3 := j3.stored pz24 (.bool t3) (.slice B3 m3 e3)
             replace j4 := j4.stored pz24 (.bool t3) (.slice B3 m3 e3)
             replace pz25 := pz25.far (g' := gz24) (by omega) (.bool t3) (.slice B3 m3 e3)
             replace pz24 := pz24.stored (s' := t3) (A' := B3) (n' := m3) (c' := e3)
             (try simp only [Act.put, List.setIfInBounds_toArray, List.set_cons_zero, List.set_cons_succ])
             refine wpAnyH_ready (rs := [14]) (by kernel_rfl) (by simp) ?_
             refine AllReadyH.cons (o := ⟨_, _, _, _, _, _⟩) rfl (fun K hK => ?_) AllReadyH.nil
             obtain ⟨q0, q1, f0, f1, k0, k1⟩ := pz25.all (.bool t4) (.slice B4 m4 e4)
             go_simp
             replace hS := below_stored hS hz25 (.bool t4) (.slice B4 m4 e4)
             refine hK.out _ _ hS (fun _ => ?_)
             clear hK K q0 q1 f0 f1 k0 k1
             replace j1 := j1.stored pz25 (.bool t4) (.slice B4 m4 e4)
             replace j2 := j2.stored pz25 (.bool t4) (.slice B4 m4 e4)
             replace j3 := j3.stored pz25 (.bool t4) (.slice B4 m4 e4)
             replace j4 := j4.stored pz25 (.bool t4) (.slice B4 m4 e4)
             replace pz24 := pz24.far (g' := gz25) (by omega) (.bool t4) (.slice B4 m4 e4)
             replace pz25 := pz25.stored (s' := t4) (A' := B4) (n' := m4) (c' := e4)
             (try simp only [Act.put, List.setIfInBounds_toArray, List.set_cons_zero, List.set_cons_succ])
             refine wpAnyH_take (i := 15) (oi := ⟨_, _, _, _, _, _⟩) (v := ?_) rfl (by kernel_rfl) (by kernel_rfl) (by kernel_rfl) (fun _ _ _ h => h) (Or.inl ⟨by rfl, ?_⟩) hS ?_
             rotate_left
             ·intro w' hS'; (first | (go_simp; done) | (go_simp; with_reducible rfl) | with_reducible rfl)
             (try simp only [Act.put, List.setIfInBounds_toArray, List.set_cons_zero, List.set_cons_succ])
             refine wpAnyH_done (by kernel_rfl) ?_ _
             go_wp2_with fail
             go_meet
             case rel => exact ⟨gz24, gz25, rfl, rfl, hz24, hz25, by omega, ⟨_, _, _, _, pz24, j3⟩, ⟨_, _, _, _, pz25, j4⟩, hS⟩
           ·go_simp
            have pz25 := Pr.new u2 false none 0 0
            have az := bone u2 (.cells #[.bool false, .slice none 0 0] 24)
            have hz25 := hS.size
            replace hS := bthen hS az
            (replace j1 := j1.call az); (replace j2 := j2.call az)
            refine hK.out _ _ hS (fun _ => ?_)
            clear hK K az
            generalize hgz : u2.heap.size = gz25 at hz25 pz25 ⊢
            clear hgz
            generalize u2.alloc (.cells #[.bool false, .slice none 0 0] 24) = u2z25 at *
            (try simp only [Act.put, List.setIfInBounds_toArray, List.set_cons_zero, List.set_cons_succ])
            refine wpAnyH_ready (rs := [6, 11]) (by kernel_rfl) (by simp) ?_
            refine AllReadyH.cons (o := ⟨_, _, _, _, _, _⟩) rfl (fun K hK => ?_) (AllReadyH.cons (o := ⟨_, _, _, _, _, _⟩) rfl (fun K hK => ?_) AllReadyH.nil)
            ·go_simp
             refine (refDivMod_ne _ j2.any (i3.call hS).any (Nat.le_trans (j2.len LD.out) (by omega)) (by omega) hy).mono ?_
             rintro e u3 ⟨t3, B3, m3, e3, t4, B4, m4, e4, rfl, j3, j4, d3⟩
             replace hS := bthen hS d3
             (replace j1 := j1.call d3); (replace j2 := j2.call d3); (replace pz25 := pz25.call d3)
             first | (with_reducible refine hK.out _ _ hS (fun _ => ?_)) | (go_wp2_with fail; with_reducible refine hK.out _ _ hS (fun _ => ?_))
             clear hK K
             (try simp only [Act.put, List.setIfInBounds_toArray, List.set_cons_zero, List.set_cons_succ])
             refine wpAnyH_take (i := 7) (oi := ⟨_, _, _, _, _, _⟩) (v := ?_) rfl (by kernel_rfl) (by kernel_rfl) (by kernel_rfl) (fun _ _ _ h => h) (Or.inl ⟨by rfl, ?_⟩) hS ?_
             rotate_left
             ·intro w' hS'; (first | (go_simp; done) | (go_simp; with_reducible rfl) | with_reducible rfl)
             (try simp only [Act.put, List.setIfInBounds_toArray, List.set_cons_zero, List.set_cons_succ])
             refine wpAnyH_take (i := 8) (oi := ⟨_, _, _, _, _, _⟩) (v := ?_) rfl (by kernel_rfl) (by kernel_rfl) (by kernel_rfl) (fun _ _ _ h => h) (Or.inl ⟨by rfl, ?_⟩) hS ?_
             rotate_left
             ·intro w' hS'; (first | (go_simp; done) | (go_simp; with_reducible rfl) | with_reducible rfl)
             (try simp only [Act.put, List.setIfInBounds_toArray, List.set_cons_zero, List.set_cons_succ])
             refine wpAnyH_take (i := 9) (oi := ⟨_, _, _, _, _, _⟩) (v := ?_) rfl (by kernel_rfl) (by kernel_rfl) (by kernel_rfl) (fun _ _ _ h => h) (Or.inl ⟨by rfl, ?_⟩) hS ?_
             rotate_left
             ·intro w' hS'; (first | (go_simp; done) | (go_simp; with_reducible rfl) | with_reducible rfl)
             (try simp only [Act.put, List.setIfInBounds_toArray, List.set_cons_zero, List.set_cons_succ])
             refine wpAnyH_take (i := 10) (oi := ⟨_, _, _, _, _, _⟩) (v := ?_) rfl (by kernel_rfl) (by kernel_rfl) (by kernel_rfl) (fun _ _ _ h => h) (Or.inl ⟨by rfl, ?_⟩) hS ?_
             rotate_left
             ·intro w' hS'; (first | (go_simp; done) | (go_simp; with_reducible rfl) | with_reducible rfl)
             (try simp only [Act.put, List.setIfInBounds_toArray, List.set_cons_zero, List.set_cons_succ])
             refine wpAnyH_ready (rs := [11]) (by kernel_rfl) (by simp) ?_
             refine AllReadyH.cons (o := ⟨_, _, _, _, _, _⟩) rfl (fun K hK => ?_) AllReadyH.nil
             go_simp
             have pz24 := Pr.new u3 false none 0 0
             have az := bone u3 (.cells #[.bool false, .slice none 0 0] 24)
             have hz24 := hS.size
             have lt25_24 := pz25.lt
             replace hS := bthen hS az
             (replace j1 := j1.call az); (replace j2 := j2.call az); (replace j3 := j3.call az); (replace j4 := j4.call az); (replace pz25 := pz25.call az)
             refine hK.out _ _ hS (fun _ => ?_)
             clear hK K az
             generalize hgz : u3.heap.size = gz24 at hz24 pz24 ⊢ lt25_24
             clear hgz
             generalize u3.alloc (.cells #[.bool false, .slice none 0 0] 24) = u3z24 at *
             (try simp only [Act.put, List.setIfInBounds_toArray, List.set_cons_zero, List.set_cons_succ])
             refine wpAnyH_ready (rs := [13]) (by kernel_rfl) (by simp) ?_
             refine AllReadyH.cons (o := ⟨_, _, _, _, _, _⟩) rfl (fun K hK => ?_) AllReadyH.nil
             obtain ⟨q0, q1, f0, f1, k0, k1⟩ := pz24.all (.bool t3) (.slice B3 m3 e3)
             go_simp
             replace hS := below_stored hS hz24 (.bool t3) (.slice B3 m3 e3)
             refine hK.out _ _ hS (fun _ => ?_)
             clear hK K q0 q1 f0 f1 k0 k1
             replace j1 := j1.stored pz24 (.bool t3) (.slice B3 m3 e3)
             replace j2 := j2.stored pz24 (.bool t3) (.slice B3 m3 e3)
             replace j3 := j3.stored pz24 (.bool t3) (.slice B3 m3 e3)
             replace j4 := j4.stored pz24 (.bool t3) (.slice B3 m3 e3)
             replace pz25 := pz25.far (g' := gz24) (by omega) (.bool t3) (.slice B3 m3 e3)
             replace pz24 := pz24.stored (s' := t3) (A' := B3) (n' := m3) (c' := e3)
             (try simp only [Act.put, List.setIfInBounds_toArray, List.set_cons_zero, List.set_cons_succ])
             refine wpAnyH_ready (rs := [14]) (by kernel_rfl) (by simp) ?_
             refine AllReadyH.cons (o := ⟨_, _, _, _, _, _⟩) rfl (fun K hK => ?_) AllReadyH.nil
             obtain ⟨q0, q1, f0, f1, k0, k1⟩ := pz25.all (.bool t4) (.slice B4 m4 e4)
             go_simp
             replace hS := below_stored hS hz25 (.bool t4) (.slice B4 m4 e4)
             refine hK.out _ _ hS (fun _ => ?_)
             clear hK K q0 q1 f0 f1 k0 k1
             replace j1 := j1.stored pz25 (.bool t4) (.slice B4 m4 e4)
             replace j2 := j2.stored pz25 (.bool t4) (.slice B4 m4 e4)
             replace j3 := j3.stored pz25 (.bool t4) (.slice B4 m4 e4)
             replace j4 := j4.stored pz25 (.bool t4) (.slice B4 m4 e4)
             replace pz24 := pz24.far (g' := gz25) (by omega) (.bool t4) (.slice B4 m4 e4)
             replace pz25 := pz25.stored (s' := t4) (A' := B4) (n' := m4) (c' := e4)
             (try simp only [Act.put, List.setIfInBounds_toArray, List.set_cons_zero, List.set_cons_succ])
             refine wpAnyH_take (i := 15) (oi := ⟨_, _, _, _, _, _⟩) (v := ?_) rfl (by kernel_rfl) (by kernel_rfl) (by kernel_rfl) (fun _ _ _ h => h) (Or.inl ⟨by rfl, ?_⟩) hS ?_
             rotate_left
             ·intro w' hS'; (first | (go_simp; done) | (go_simp; with_reducible rfl) | with_reducible rfl)
             (try simp only [Act.put, List.setIfInBounds_toArray, List.set_cons_zero, List.set_cons_succ])
             refine wpAnyH_done (by kernel_rfl) ?_ _
             go_wp2_with fail
             go_meet
             case rel => exact ⟨gz24, gz25, rfl, rfl, hz24, hz25, by omega, ⟨_, _, _, _, pz24, j3⟩, ⟨_, _, _, _, pz25, j4⟩, hS⟩
            ·go_simp
             have pz24 := Pr.new u2z25 false none 0 0
             have az := bone u2z25 (.cells #[.bool false, .slice none 0 0] 24)
             have hz24 := hS.size
             have lt25_24 := pz25.lt
             replace hS := bthen hS az
             (replace j1 := j1.call az); (replace j2 := j2.call az); (replace pz25 := pz25.call az)
             refine hK.out _ _ hS (fun _ => ?_)
             clear hK K az
             generalize hgz : u2z25.heap.size = gz24 at hz24 pz24 ⊢ lt25_24
             clear hgz
             generalize u2z25.alloc (.cells #[.bool false, .slice none 0 0] 24) = u2z25z24 at *
             (try simp only [Act.put, List.setIfInBounds_toArray, List.set_cons_zero, List.set_cons_succ])
             refine wpAnyH_ready (rs := [6]) (by kernel_rfl) (by simp) ?_
             refine AllReadyH.cons (o := ⟨_, _, _, _, _, _⟩) rfl (fun K hK => ?_) AllReadyH.nil
             go_simp
             refine (refDivMod_ne _ j2.any (i3.call hS).any (Nat.le_trans (j2.len LD.out) (by omega)) (by omega) hy).mono ?_
             rintro e u3 ⟨t3, B3, m3, e3, t4, B4, m4, e4, rfl, j3, j4, d3⟩
             replace hS := bthen hS d3
             (replace j1 := j1.call d3); (replace j2 := j2.call d3); (replace pz25 := pz25.call d3); (replace pz24 := pz24.call d3)
             first | (with_reducible refine hK.out _ _ hS (fun _ => ?_)) | (go_wp2_with fail; with_reducible refine hK.out _ _ hS (fun _ => ?_))
             clear hK K
             (try simp only [Act.put, List.setIfInBounds_toArray, List.set_cons_zero, List.set_cons_succ])
             refine wpAnyH_take (i := 7) (oi := ⟨_, _, _, _, _, _⟩) (v := ?_) rfl (by kernel_rfl) (by kernel_rfl) (by kernel_rfl) (fun _ _ _ h => h) (Or.inl ⟨by rfl, ?_⟩) hS ?_
             rotate_left
             ·intro w' hS'; (first | (go_simp; done) | (go_simp; with_reducible rfl) | with_reducible rfl)
             (try simp only [Act.put, List.setIfInBounds_toArray, List.set_cons_zero, List.set_cons_succ])
             refine wpAnyH_take (i := 8) (oi := ⟨_, _, _, _, _, _⟩) (v := ?_) rfl (by kernel_rfl) (by kernel_rfl) (by kernel_rfl) (fun _ _ _ h => h) (Or.inl ⟨by rfl, ?_⟩) hS ?_
             rotate_left
             ·intro w' hS'; (first | (go_simp; done) | (go_simp; with_reducible rfl) | with_reducible rfl)
             (try simp only [Act.put, List.setIfInBounds_toArray, List.set_cons_zero, List.set_cons_succ])
             refine wpAnyH_take (i := 9) (oi := ⟨_, _, _, _, _, _⟩) (v := ?_) rfl (by kernel_rfl) (by kernel_rfl) (by kernel_rfl) (fun _ _ _ h => h) (Or.inl ⟨by rfl, ?_⟩) hS ?_
             rotate_left
             ·intro w' hS'; (first | (go_simp; done) | (go_simp; with_reducible rfl) | with_reducible rfl)
             (try simp only [Act.put, List.setIfInBounds_toArray, List.set_cons_zero, List.set_cons_succ])
             refine wpAnyH_take (i := 10) (oi := ⟨_, _, _, _, _, _⟩) (v := ?_) rfl (by kernel_rfl) (by kernel_rfl) (by kernel_rfl) (fun _ _ _ h => h) (Or.inl ⟨by rfl, ?_⟩) hS ?_
             rotate_left
             ·intro w' hS'; (first | (go_simp; done) | (go_simp; with_reducible rfl) | with_reducible rfl)
             (try simp only [Act.put, List.setIfInBounds_toArray, List.set_cons_zero, List.set_cons_succ])
             refine wpAnyH_ready (rs := [13]) (by kernel_rfl) (by simp) ?_
             refine AllReadyH.cons (o := ⟨_, _, _, _, _, _⟩) rfl (fun K hK => ?_) AllReadyH.nil
             obtain ⟨q0, q1, f0, f1, k0, k1⟩ := pz24.all (.bool t3) (.slice B3 m3 e3)
             go_simp
             replace hS := below_stored hS hz24 (.bool t3) (.slice B3 m3 e3)
             refine hK.out _ _ hS (fun _ => ?_)
             clear hK K q0 q1 f0 f1 k0 k1
             replace j1 := j1.stored pz24 (.bool t3) (.slice B3 m3 e3)
             replace j2 := j2.stored pz24 (.bool t3) (.slice B3 m3 e3)
             replace j3 := j3.stored pz24 (.bool t3) (.slice B3 m3 e3)
             replace j4 := j4.stored pz24 (.bool t3) (.slice B3 m3 e3)
             replace pz25 := pz25.far (g' := gz24) (by omega) (.bool t3) (.slice B3 m3 e3)
             replace pz24 := pz24.stored (s' := t3) (A' := B3) (n' := m3) (c' := e3)
             (try simp only [Act.put, List.setIfInBounds_toArray, List.set_cons_zero, List.set_cons_succ])
             refine wpAnyH_ready (rs := [14]) (by kernel_rfl) (by simp) ?_
             refine AllReadyH.cons (o := ⟨_, _, _, _, _, _⟩) rfl (fun K hK => ?_) AllReadyH.nil
             obtain ⟨q0, q1, f0, f1, k0, k1⟩ := pz25.all (.bool t4) (.slice B4 m4 e4)
             go_simp
             replace hS := below_stored hS hz25 (.bool t4) (.slice B4 m4 e4)
             refine hK.out _ _ hS (fun _ => ?_)
             clear hK K q0 q1 f0 f1 k0 k1
             replace j1 := j1.stored pz25 (.bool t4) (.slice B4 m4 e4)
             replace j2 := j2.stored pz25 (.bool t4) (.slice B4 m4 e4)
             replace j3 := j3.stored pz25 (.bool t4) (.slice B4 m4 e4)
             replace j4 := j4.stored pz25 (.bool t4) (.slice B4 m4 e4)
             replace pz24 := pz24.far (g' := gz25) (by omega) (.bool t4) (.slice B4 m4 e4)
             replace pz25 := pz25.stored (s' := t4) (A' := B4) (n' := m4) (c' := e4)
             (try simp only [Act.put, List.setIfInBounds_toArray, List.set_cons_zero, List.set_cons_succ])
             refine wpAnyH_take (i := 15) (oi := ⟨_, _, _, _, _, _⟩) (v := ?_) rfl (by kernel_rfl) (by kernel_rfl) (by kernel_rfl) (fun _ _ _ h => h) (Or.inl ⟨by rfl, ?_⟩) hS ?_
             rotate_left
             ·intro w' hS'; (first | (go_simp; done) | (go_simp; with_reducible rfl) | with_reducible rfl)
             (try simp only [Act.put, List.setIfInBounds_toArray, List.set_cons_zero, List.set_cons_succ])
             refine wpAnyH_done (by kernel_rfl) ?_ _
             go_wp2_with fail
             go_meet
             case rel => exact ⟨gz24, gz25, rfl, rfl, hz24, hz25, by omega, ⟨_, _, _, _, pz24, j3⟩, ⟨_, _, _, _, pz25, j4⟩, hS⟩
          ·go_simp
           have pz24 := Pr.new u1 false none 0 0
           have az := bone u1 (.cells #[.bool false, .slice none 0 0] 24)
           have hz24 := hS.size
           replace hS := bthen hS az
           (replace j1 := j1.call az)
           refine hK.out _ _ hS (fun _ => ?_)
           clear hK K az
           generalize hgz : u1.heap.size = gz24 at hz24 pz24 ⊢
           clear hgz
           generalize u1.alloc (.cells #[.bool false, .slice none 0 0] 24) = u1z24 at *
           (try simp only [Act.put, List.setIfInBounds_toArray, List.set_cons_zero, List.set_cons_succ])
           refine wpAnyH_ready (rs := [4, 12]) (by kernel_rfl) (by simp) ?_
           refine AllReadyH.cons (o := ⟨_, _, _, _, _, _⟩) rfl (fun K hK => ?_) (AllReadyH.cons (o := ⟨_, _, _, _, _, _⟩) rfl (fun K hK => ?_) AllReadyH.nil)
           ·go_simp
            refine (refSub_any _ (i7.call hS).any j1.any (by omega) (Nat.le_trans (j1.len LP) (by omega))).mono ?_
            rintro e u2 ⟨t2, B2, m2, e2, rfl, j2, d2⟩
            replace hS := bthen hS d2
            (replace j1 := j1.call d2); (replace pz24 := pz24.call d2)
            first | (with_reducible refine hK.out _ _ hS (fun _ => ?_)) | (go_wp2_with fail; with_reducible refine hK.out _ _ hS (fun _ => ?_))
            clear hK K
            (try simp only [Act.put, List.setIfInBounds_toArray, List.set_cons_zero, List.set_cons_succ])
            refine wpAnyH_ready (rs := [6, 12]) (by kernel_rfl) (by simp) ?_
            refine AllReadyH.cons (o := ⟨_, _, _, _, _, _⟩) rfl (fun K hK => ?_) (AllReadyH.cons (o := ⟨_, _, _, _, _, _⟩) rfl (fun K hK => ?_) AllReadyH.nil)
            ·go_simp
             refine (refDivMod_ne _ j2.any (i3.call hS).any (Nat.le_trans (j2.len LD.out) (by omega)) (by omega) hy).mono ?_
             rintro e u3 ⟨t3, B3, m3, e3, t4, B4, m4, e4, rfl, j3, j4, d3⟩
             replace hS := bthen hS d3
             (replace j1 := j1.call d3); (replace j2 := j2.call d3); (replace pz24 := pz24.call d3)
             first | (with_reducible refine hK.out _ _ hS (fun _ => ?_)) | (go_wp2_with fail; with_reducible refine hK.out _ _ hS (fun _ => ?_))
             clear hK K
             (try simp only [Act.put, List.setIfInBounds_toArray, List.set_cons_zero, List.set_cons_succ])
             refine wpAnyH_take (i := 7) (oi := ⟨_, _, _, _, _, _⟩) (v := ?_) rfl (by kernel_rfl) (by kernel_rfl) (by kernel_rfl) (fun _ _ _ h => h) (Or.inl ⟨by rfl, ?_⟩) hS ?_
             rotate_left
             ·intro w' hS'; (first | (go_simp; done) | (go_simp; with_reducible rfl) | with_reducible rfl)
             (try simp only [Act.put, List.setIfInBounds_toArray, List.set_cons_zero, List.set_cons_succ])
             refine wpAnyH_take (i := 8) (oi := ⟨_, _, _, _, _, _⟩) (v := ?_) rfl (by kernel_rfl) (by kernel_rfl) (by kernel_rfl) (fun _ _ _ h => h) (Or.inl ⟨by rfl, ?_⟩) hS ?_
             rotate_left
             ·intro w' hS'; (first | (go_simp; done) | (go_simp; with_reducible rfl) | with_reducible rfl)
             (try simp only [Act.put, List.setIfInBounds_toArray, List.set_cons_zero, List.set_cons_succ])
             refine wpAnyH_take (i := 9) (oi := ⟨_, _, _, _, _, _⟩) (v := ?_) rfl (by kernel_rfl) (by kernel_rfl) (by kernel_rfl) (fun _ _ _ h => h) (Or.inl ⟨by rfl, ?_⟩) hS ?_
             rotate_left
             ·intro w' hS'; (first | (go_simp; done) | (go_simp; with_reducible rfl) | with_reducible rfl)
             (try simp only [Act.put, List.setIfInBounds_toArray, List.set_cons_zero, List.set_cons_succ])
             refine wpAnyH_take (i := 10) (oi := ⟨_, _, _, _, _, _⟩) (v := ?_) rfl (by kernel_rfl) (by kernel_rfl) (by kernel_rfl) (fun _ _ _ h => h) (Or.inl ⟨by rfl, ?_⟩) hS ?_
             rotate_left
             ·intro w' hS'; (first | (go_simp; done) | (go_simp; with_reducible rfl) | with_reducible rfl)
             (try simp only [Act.put, List.setIfInBounds_toArray, List.set_cons_zero, List.set_cons_succ])
             refine wpAnyH_ready (rs := [12]) (by kernel_rfl) (by simp) ?_
             refine AllReadyH.cons (o := ⟨_, _, _, _, _, _⟩) rfl (fun K hK => ?_) AllReadyH.nil
             go_simp
             have pz25 := Pr.new u3 false none 0 0
             have az := bone u3 (.cells #[.bool false, .slice none 0 0] 24)
             have hz25 := hS.size
             have lt24_25 := pz24.lt
             replace hS := bthen hS az
             (replace j1 := j1.call az); (replace j2 := j2.call az); (replace j3 := j3.call az); (replace j4 := j4.call az); (replace pz24 := pz24.call az)
             refine hK.out _ _ hS (fun _ => ?_)
             clear hK K az
             generalize hgz : u3.heap.size = gz25 at hz25 pz25 ⊢ lt24_25
             clear hgz
             generalize u3.alloc (.cells #[.bool false, .slice none 0 0] 24) = u3z25 at *
             (try simp only [Act.put, List.setIfInBounds_toArray, List.set_cons_zero, List.set_cons_succ])
             refine wpAnyH_ready (rs := [13]) (by kernel_rfl) (by simp) ?_
             refine AllReadyH.cons (o := ⟨_, _, _, _, _, _⟩) rfl (fun K hK => ?_) AllReadyH.nil
             obtain ⟨q0, q1, f0, f1, k0, k1⟩ := pz24.all (.bool t3) (.slice B3 m3 e3)
             go_simp
             replace hS := below_stored hS hz24 (.bool t3) (.slice B3 m3 e3)
             refine hK.out _ _ hS (fun _ => ?_)
             clear hK K q0 q1 f0 f1 k0 k1
             replace j1 := j1.stored pz24 (.bool t3) (.slice B3 m3 e3)
             replace j2 := j2.stored pz24 (.bool t3) (.slice B3 m3 e3)
             replace j3 := j3.stored pz24 (.bool t3) (.slice B3 m3 e3)
             replace j4 := j4.stored pz24 (.bool t3) (.slice B3 m3 e3)
             replace pz25 := pz25.far (g' := gz24) (by omega) (.bool t3) (.slice B3 m3 e3)
             replace pz24 := pz24.stored (s' := t3) (A' := B3) (n' := m3) (c' := e3)
             (try simp only [Act.put, List.setIfInBounds_toArray, List.set_cons_zero, List.set_cons_succ])
             refine wpAnyH_ready (rs := [14]) (by kernel_rfl) (by simp) ?_
             refine AllReadyH.cons (o := ⟨_, _, _, _, _, _⟩) rfl (fun K hK => ?_) AllReadyH.nil
             obtain ⟨q0, q1, f0, f1, k0, k1⟩ := pz25.all (.bool t4) (.slice B4 m4 e4)
             go_simp
             replace hS := below_stored hS hz25 (.bool t4) (.slice B4 m4 e4)
             refine hK.out _ _ hS (fun _ => ?_)
             clear hK K q0 q1 f0 f1 k0 k1
             replace j1 := j1.stored pz25 (.bool t4) (.slice B4 m4 e4)
             replace j2 := j2.stored pz25 (.bool t4) (.slice B4 m4 e4)
             replace j3 := j3.stored pz25 (.bool t4) (.slice B4 m4 e4)
             replace j4 := j4.stored pz25 (.bool t4) (.slice B4 m4 e4)
             replace pz24 := pz24.far (g' := gz25) (by omega) (.bool t4) (.slice B4 m4 e4)
             replace pz25 := pz25.stored (s' := t4) (A' := B4) (n' := m4) (c' := e4)
             (try simp only [Act.put, List.setIfInBounds_toArray, List.set_cons_zero, List.set_cons_succ])
             refine wpAnyH_take (i := 15) (oi := ⟨_, _, _, _, _, _⟩) (v := ?_) rfl (by kernel_rfl) (by kernel_rfl) (by kernel_rfl) (fun _ _ _ h => h) (Or.inl ⟨by rfl, ?_⟩) hS ?_
             rotate_left
             ·intro w' hS'; (first | (go_simp; done) | (go_simp; with_reducible rfl) | with_reducible rfl)
             (try simp only [Act.put, List.setIfInBounds_toArray, List.set_cons_zero, List.set_cons_succ])
             refine wpAnyH_done (by kernel_rfl) ?_ _
             go_wp2_with fail
             go_meet
             case rel => exact ⟨gz24, gz25, rfl, rfl, hz24, hz25, by omega, ⟨_, _, _, _, pz24, j3⟩, ⟨_, _, _, _, pz25, j4⟩, hS⟩
            ·go_simp
             have pz25 := Pr.new u2 false none 0 0
             have az := bone u2 (.cells #[.bool false, .slice none 0 0] 24)
             have hz25 := hS.size
             have lt24_25 := pz24.lt
             replace hS := bthen hS az
             (replace j1 := j1.call az); (replace j2 := j2.call az); (replace pz24 := pz24.call az)
             refine hK.out _ _ hS (fun _ => ?_)
             clear hK K az
             generalize hgz : u2.heap.size = gz25 at hz25 pz25 ⊢ lt24_25
             clear hgz
             generalize u2.alloc (.cells #[.bool false, .slice none 0 0] 24) = u2z25 at *
             (try simp only [Act.put, List.setIfInBounds_toArray, List.set_cons_zero, List.set_cons_succ])
             refine wpAnyH_ready (rs := [6]) (by kernel_rfl) (by simp) ?_
             refine AllReadyH.cons (o := ⟨_, _, _, _, _, _⟩) rfl (fun K hK => ?_) AllReadyH.nil
             go_simp
             refine (refDivMod_ne _ j2.any (i3.call hS).any (Nat.le_trans (j2.len LD.out) (by omega)) (by omega) hy).mono ?_
             rintro e u3 ⟨t3, B3, m3, e3, t4, B4, m4, e4, rfl, j3, j4, d3⟩
             replace hS := bthen hS d3
             (replace j1 := j1.call d3); (replace j2 := j2.call d3); (replace pz24 := pz24.call d3); (replace pz25 := pz25.call d3)
             first | (with_reducible refine hK.out _ _ hS (fun _ => ?_)) | (go_wp2_with fail; with_reducible refine hK.out _ _ hS (fun _ => ?_))
             clear hK K
             (try simp only [Act.put, List.setIfInBounds_toArray, List.set_cons_zero, List.set_cons_succ])
             refine wpAnyH_take (i := 7) (oi := ⟨_, _, _, _, _, _⟩) (v := ?_) rfl (by kernel_rfl) (by kernel_rfl) (by kernel_rfl) (fun _ _ _ h => h) (Or.inl ⟨by rfl, ?_⟩) hS ?_
             rotate_left
             ·intro w' hS'; (first | (go_simp; done) | (go_simp; with_reducible rfl) | with_reducible rfl)
             (try simp only [Act.put, List.setIfInBounds_toArray, List.set_cons_zero, List.set_cons_succ])
             refine wpAnyH_take (i := 8) (oi := ⟨_, _, _, _, _, _⟩) (v := ?_) rfl (by kernel_rfl) (by kernel_rfl) (by kernel_rfl) (fun _ _ _ h => h) (Or.inl ⟨by rfl, ?_⟩) hS ?_
             rotate_left
             ·intro w' hS'; (first | (go_simp; done) | (go_simp; with_reducible rfl) | with_reducible rfl)
             (try simp only [Act.put, List.setIfInBounds_toArray, List.set_cons_zero, List.set_cons_succ])
             refine wpAnyH_take (i := 9) (oi := ⟨_, _, _, _, _, _⟩) (v := ?_) rfl (by kernel_rfl) (by kernel_rfl) (by kernel_rfl) (fun _ _ _ h => h) (Or.inl ⟨by rfl, ?_⟩) hS ?_
             rotate_left
             ·intro w' hS'; (first | (go_simp; done) | (go_simp; with_reducible rfl) | with_reducible rfl)
             (try simp only [Act.put, List.setIfInBounds_toArray, List.set_cons_zero, List.set_cons_succ])
             refine wpAnyH_take (i := 10) (oi := ⟨_, _, _, _, _, _⟩) (v := ?_) rfl (by kernel_rfl) (by kernel_rfl) (by kernel_rfl) (fun _ _ _ h => h) (Or.inl ⟨by rfl, ?_⟩) hS ?_
             rotate_left
             ·intro w' hS'; (first | (go_simp; done) | (go_simp; with_reducible rfl) | with_reducible rfl)
             (try simp only [Act.put, List.setIfInBounds_toArray, List.set_cons_zero, List.set_cons_succ])
             refine wpAnyH_ready (rs := [13]) (by kernel_rfl) (by simp) ?_
             refine AllReadyH.cons (o := ⟨_, _, _, _, _, _⟩) rfl (fun K hK => ?_) AllReadyH.nil
             obtain ⟨q0, q1, f0, f1, k0, k1⟩ := pz24.all (.bool t3) (.slice B3 m3 e3)
             go_simp
             replace hS := below_stored hS hz24 (.bool t3) (.slice B3 m3 e3)
             refine hK.out _ _ hS (fun _ => ?_)
             clear hK K q0 q1 f0 f1 k0 k1
             replace j1 := j1.stored pz24 (.bool t3) (.slice B3 m3 e3)
             replace j2 := j2.stored pz24 (.bool t3) (.slice B3 m3 e3)
             replace j3 := j3.stored pz24 (.bool t3) (.slice B3 m3 e3)
             replace j4 := j4.stored pz24 (.bool t3) (.slice B3 m3 e3)
             replace pz25 := pz25.far (g' := gz24) (by omega) (.bool t3) (.slice B3 m3 e3)
             replace pz24 := pz24.stored (s' := t3) (A' := B3) (n' := m3) (c' := e3)
             (try simp only [Act.put, List.setIfInBounds_toArray, List.set_cons_zero, List.set_cons_succ])
             refine wpAnyH_ready (rs := [14]) (by kernel_rfl) (by simp) ?_
             refine AllReadyH.cons (o := ⟨_, _, _, _, _, _⟩) rfl (fun K hK => ?_) AllReadyH.nil
             obtain ⟨q0, q1, f0, f1, k0, k1⟩ := pz25.all (.bool t4) (.slice B4 m4 e4)
             go_simp
             replace hS := below_stored hS hz25 (.bool t4) (.slice B4 m4 e4)
             refine hK.out _ _ hS (fun _ => ?_)
             clear hK K q0 q1 f0 f1 k0 k1
             replace j1 := j1.stored pz25 (.bool t4) (.slice B4 m4 e4)
             replace j2 := j2.stored pz25 (.bool t4) (.slice B4 m4 e4)
             replace j3 := j3.stored pz25 (.bool t4) (.slice B4 m4 e4)
             replace j4 := j4.stored pz25 (.bool t4) (.slice B4 m4 e4)
             replace pz24 := pz24.far (g' := gz25) (by omega) (.bool t4) (.slice B4 m4 e4)
             replace pz25 := pz25.stored (s' := t4) (A' := B4) (n' := m4) (c' := e4)
             (try simp only [Act.put, List.setIfInBounds_toArray, List.set_cons_zero, List.set_cons_succ])
             refine wpAnyH_take (i := 15) (oi := ⟨_, _, _, _, _, _⟩) (v := ?_) rfl (by kernel_rfl) (by kernel_rfl) (by kernel_rfl) (fun _ _ _ h => h) (Or.inl ⟨by rfl, ?_⟩) hS ?_
             rotate_left
             ·intro w' hS'; (first | (go_simp; done) | (go_simp; with_reducible rfl) | with_reducible rfl)
             (try simp only [Act.put, List.setIfInBounds_toArray, List.set_cons_zero, List.set_cons_succ])
             refine wpAnyH_done (by kernel_rfl) ?_ _
             go_wp2_with fail
             go_meet
             case rel => exact ⟨gz24, gz25, rfl, rfl, hz24, hz25, by omega, ⟨_, _, _, _, pz24, j3⟩, ⟨_, _, _, _, pz25, j4⟩, hS⟩
           ·go_simp
            have pz25 := Pr.new u1z24 false none 0 0
            have az := bone u1z24 (.cells #[.bool false, .slice none 0 0] 24)
            have hz25 := hS.size
            have lt24_25 := pz24.lt
            replace hS := bthen hS az
            (replace j1 := j1.call az); (replace pz24 := pz24.call az)
            refine hK.out _ _ hS (fun _ => ?_)
            clear hK K az
            generalize hgz : u1z24.heap.size = gz25 at hz25 pz25 ⊢ lt24_25
            clear hgz
            generalize u1z24.alloc (.cells #[.bool false, .slice none 0 0] 24) = u1z24z25 at *
            (try simp only [Act.put, List.setIfInBounds_toArray, List.set_cons_zero, List.set_cons_succ])
            refine wpAnyH_ready (rs := [4]) (by kernel_rfl) (by simp) ?_
            refine AllReadyH.cons (o := ⟨_, _, _, _, _, _⟩) rfl (fun K hK => ?_) AllReadyH.nil
            go_simp
            refine (refSub_any _ (i7.call hS).any j1.any (by omega) (Nat.le_trans (j1.len LP) (by omega))).mono ?_
            rintro e u2 ⟨t2, B2, m2, e2, rfl, j2, d2⟩
            replace hS := bthen hS d2
            (replace j1 := j1.call d2); (replace pz24 := pz24.call d2); (replace pz25 := pz25.call d2)
            first | (with_reducible refine hK.out _ _ hS (fun _ => ?_)) | (go_wp2_with fail; with_reducible refine hK.out _ _ hS (fun _ => ?_))
            clear hK K
            (try simp only [Act.put, List.setIfInBounds_toArray, List.set_cons_zero, List.set_cons_succ])
            refine wpAnyH_ready (rs := [6]) (by kernel_rfl) (by simp) ?_
            refine AllReadyH.cons (o := ⟨_, _, _, _, _, _⟩) rfl (fun K hK => ?_) AllReadyH.nil
            go_simp
            refine (refDivMod_ne _ j2.any (i3.call hS).any (Nat.le_trans (j2.len LD.out) (by omega)) (by omega) hy).mono ?_
            rintro e u3 ⟨t3, B3, m3, e3, t4, B4, m4, e4, rfl, j3, j4, d3⟩
            replace hS := bthen hS d3
            (replace j1 := j1.call d3); (replace j2 := j2.call d3); (replace pz24 := pz24.call d3); (replace pz25 := pz25.call d3)
            first | (with_reducible refine hK.out _ _ hS (fun _ => ?_)) | (go_wp2_with fail; with_reducible refine hK.out _ _ hS (fun _ => ?_))
            clear hK K
            (try simp only [Act.put, List.setIfInBounds_toArray, List.set_cons_zero, List.set_cons_succ])
            refine wpAnyH_take (i := 7) (oi := ⟨_, _, _, _, _, _⟩) (v := ?_) rfl (by kernel_rfl) (by kernel_rfl) (by kernel_rfl) (fun _ _ _ h => h) (Or.inl ⟨by rfl, ?_⟩) hS ?_
            rotate_left
            ·intro w' hS'; (first | (go_simp; done) | (go_simp; with_reducible rfl) | with_reducible rfl)
            (try simp only [Act.put, List.setIfInBounds_toArray, List.set_cons_zero, List.set_cons_succ])
            refine wpAnyH_take (i := 8) (oi := ⟨_, _, _, _, _, _⟩) (v := ?_) rfl (by kernel_rfl) (by kernel_rfl) (by kernel_rfl) (fun _ _ _ h => h) (Or.inl ⟨by rfl, ?_⟩) hS ?_
            rotate_left
            ·intro w' hS'; (first | (go_simp; done) | (go_simp; with_reducible rfl) | with_reducible rfl)
            (try simp only [Act.put, List.setIfInBounds_toArray, List.set_cons_zero, List.set_cons_succ])
            refine wpAnyH_take (i := 9) (oi := ⟨_, _, _, _, _, _⟩) (v := ?_) rfl (by kernel_rfl) (by kernel_rfl) (by kernel_rfl) (fun _ _ _ h => h) (Or.inl ⟨by rfl, ?_⟩) hS ?_
            rotate_left
            ·intro w' hS'; (first | (go_simp; done) | (go_simp; with_reducible rfl) | with_reducible rfl)
            (try simp only [Act.put, List.setIfInBounds_toArray, List.set_cons_zero, List.set_cons_succ])
            refine wpAnyH_take (i := 10) (oi := ⟨_, _, _, _, _, _⟩) (v := ?_) rfl (by kernel_rfl) (by kernel_rfl) (by kernel_rfl) (fun _ _ _ h => h) (Or.inl ⟨by rfl, ?_⟩) hS ?_
            rotate_left
            ·intro w' hS'; (first | (go_simp; done) | (go_simp; with_reducible rfl) | with_reducible rfl)
            (try simp only [Act.put, List.setIfInBounds_toArray, List.set_cons_zero, List.set_cons_succ])
            refine wpAnyH_ready (rs := [13]) (by kernel_rfl) (by simp) ?_
            refine AllReadyH.cons (o := ⟨_, _, _, _, _, _⟩) rfl (fun K hK => ?_) AllReadyH.nil
            obtain ⟨q0, q1, f0, f1, k0, k1⟩ := pz24.all (.bool t3) (.slice B3 m3 e3)
            go_simp
            replace hS := below_stored hS hz24 (.bool t3) (.slice B3 m3 e3)
            refine hK.out _ _ hS (fun _ => ?_)
            clear hK K q0 q1 f0 f1 k0 k1
            replace j1 := j1.stored pz24 (.bool t3) (.slice B3 m3 e3)
            replace j2 := j2.stored pz24 (.bool t3) (.slice B3 m3 e3)
            replace j3 := j3.stored pz24 (.bool t3) (.slice B3 m3 e3)
            replace j4 := j4.stored pz24 (.bool t3) (.slice B3 m3 e3)
            replace pz25 := pz25.far (g' := gz24) (by omega) (.bool t3) (.slice B3 m3 e3)
            replace pz24 := pz24.stored (s' := t3) (A' := B3) (n' := m3) (c' := e3)
            (try simp only [Act.put, List.setIfInBounds_toArray, List.set_cons_zero, List.set_cons_succ])
            refine wpAnyH_ready (rs := [14]) (by kernel_rfl) (by simp) ?_
            refine AllReadyH.cons (o := ⟨_, _, _, _, _, _⟩) rfl (fun K hK => ?_) AllReadyH.nil
            obtain ⟨q0, q1, f0, f1, k0, k1⟩ := pz25.all (.bool t4) (.slice B4 m4 e4)
            go_simp
            replace hS := below_stored hS hz25 (.bool t4) (.slice B4 m4 e4)
            refine hK.out _ _ hS (fun _ => ?_)
            clear hK K q0 q1 f0 f1 k0 k1
            replace j1 := j1.stored pz25 (.bool t4) (.slice B4 m4 e4)
            replace j2 := j2.stored pz25 (.bool t4) (.slice B4 m4 e4)
            replace j3 := j3.stored pz25 (.bool t4) (.slice B4 m4 e4)
            replace j4 := j4.stored pz25 (.bool t4) (.slice B4 m4 e4)
            replace pz24 := pz24.far (g' := gz25) (by omega) (.bool t4) (.slice B4 m4 e4)
            replace pz25 := pz25.stored (s' := t4) (A' := B4) (n' := m4) (c' := e4)
            (try simp only [Act.put, List.setIfInBounds_toArray, List.set_cons_zero, List.set_cons_succ])
            refine wpAnyH_take (i := 15) (oi := ⟨_, _, _, _, _, _⟩) (v := ?_) rfl (by kernel_rfl) (by kernel_rfl) (by kernel_rfl) (fun _ _ _ h => h) (Or.inl ⟨by rfl, ?_⟩) hS ?_
            rotate_left
            ·intro w' hS'; (first | (go_simp; done) | (go_simp; with_reducible rfl) | with_reducible rfl)
            (try simp only [Act.put, List.setIfInBounds_toArray, List.set_cons_zero, List.set_cons_succ])
            refine wpAnyH_done (by kernel_rfl) ?_ _
            go_wp2_with fail
            go_meet
            case rel => exact ⟨gz24, gz25, rfl, rfl, hz24, hz25, by omega, ⟨_, _, _, _, pz24, j3⟩, ⟨_, _, _, _, pz25, j4⟩, hS⟩
          ·go_simp
           have pz25 := Pr.new u1 false none 0 0
           have az := bone u1 (.cells #[.bool false, .slice none 0 0] 24)
           have hz25 := hS.size
           replace hS := bthen hS az
           (replace j1 := j1.call az)
           refine hK.out _ _ hS (fun _ => ?_)
           clear hK K az
           generalize hgz : u1.heap.size = gz25 at hz25 pz25 ⊢
           clear hgz
           generalize u1.alloc (.cells #[.bool false, .slice none 0 0] 24) = u1z25 at *
           (try simp only [Act.put, List.setIfInBounds_toArray, List.set_cons_zero, List.set_cons_succ])
           refine wpAnyH_ready (rs := [4, 11]) (by kernel_rfl) (by simp) ?_
           refine AllReadyH.cons (o := ⟨_, _, _, _, _, _⟩) rfl (fun K hK => ?_) (AllReadyH.cons (o := ⟨_, _, _, _, _, _⟩) rfl (fun K hK => ?_) AllReadyH.nil)
           ·go_simp
            refine (refSub_any _ (i7.call hS).any j1.any (by omega) (Nat.le_trans (j1.len LP) (by omega))).mono ?_
            rintro e u2 ⟨t2, B2, m2, e2, rfl, j2, d2⟩
            replace hS := bthen hS d2
            (replace j1 := j1.call d2); (replace pz25 := pz25.call d2)
            first | (with_reducible refine hK.out _ _ hS (fun _ => ?_)) | (go_wp2_with fail; with_reducible refine hK.out _ _ hS (fun _ => ?_))
            clear hK K
            (try simp only [Act.put, List.setIfInBounds_toArray, List.set_cons_zero, List.set_cons_succ])
            refine wpAnyH_ready (rs := [6, 11]) (by kernel_rfl) (by simp) ?_
            refine AllReadyH.cons (o := ⟨_, _, _, _, _, _⟩) rfl (fun K hK => ?_) (AllReadyH.cons (o := ⟨_, _, _, _, _, _⟩) rfl (fun K hK => ?_) AllReadyH.nil)
            ·go_simp
             refine (refDivMod_ne _ j2.any (i3.call hS).any (Nat.le_trans (j2.len LD.out) (by omega)) (by omega) hy).mono ?_
             rintro e u3 ⟨t3, B3, m3, e3, t4, B4, m4, e4, rfl, j3, j4, d3⟩
             replace hS := bthen hS d3
             (replace j1 := j1.call d3); (replace j2 := j2.call d3); (replace pz25 := pz25.call d3)
             first | (with_reducible refine hK.out _ _ hS (fun _ => ?_)) | (go_wp2_with fail; with_reducible refine hK.out _ _ hS (fun _ => ?_))
             clear hK K
             (try simp only [Act.put, List.setIfInBounds_toArray, List.set_cons_zero, List.set_cons_succ])
             refine wpAnyH_take (i := 7) (oi := ⟨_, _, _, _, _, _⟩) (v := ?_) rfl (by kernel_rfl) (by kernel_rfl) (by kernel_rfl) (fun _ _ _ h => h) (Or.inl ⟨by rfl, ?_⟩) hS ?_
             rotate_left
             ·intro w' hS'; (first | (go_simp; done) | (go_simp; with_reducible rfl) | with_reducible rfl)
             (try simp only [Act.put, List.setIfInBounds_toArray, List.set_cons_zero, List.set_cons_succ])
             refine wpAnyH_take (i := 8) (oi := ⟨_, _, _, _, _, _⟩) (v := ?_) rfl (by kernel_rfl) (by kernel_rfl) (by kernel_rfl) (fun _ _ _ h => h) (Or.inl ⟨by rfl, ?_⟩) hS ?_
             rotate_left
             ·intro w' hS'; (first | (go_simp; done) | (go_simp; with_reducible rfl) | with_reducible rfl)
             (try simp only [Act.put, List.setIfInBounds_toArray, List.set_cons_zero, List.set_cons_succ])
             refine wpAnyH_take (i := 9) (oi := ⟨_, _, _, _, _, _⟩) (v := ?_) rfl (by kernel_rfl) (by kernel_rfl) (by kernel_rfl) (fun _ _ _ h => h) (Or.inl ⟨by rfl, ?_⟩) hS ?_
             rotate_left
             ·intro w' hS'; (first | (go_simp; done) | (go_simp; with_reducible rfl) | with_reducible rfl)
             (try simp only [Act.put, List.setIfInBounds_toArray, List.set_cons_zero, List.set_cons_succ])
             refine wpAnyH_take (i := 10) (oi := ⟨_, _, _, _, _, _⟩) (v := ?_) rfl (by kernel_rfl) (by kernel_rfl) (by kernel_rfl) (fun _ _ _ h => h) (Or.inl ⟨by rfl, ?_⟩) hS ?_
             rotate_left
             ·intro w' hS'; (first | (go_simp; done) | (go_simp; with_reducible rfl) | with_reducible rfl)
             (try simp only [Act.put, List.setIfInBounds_toArray, List.set_cons_zero, List.set_cons_succ])
             refine wpAnyH_ready (rs := [11]) (by kernel_rfl) (by simp) ?_
             refine AllReadyH.cons (o := ⟨_, _, _, _, _, _⟩) rfl (fun K hK => ?_) AllReadyH.nil
             go_simp
             have pz24 := Pr.new u3 false none 0 0
             have az := bone u3 (.cells #[.bool false, .slice none 0 0] 24)
             have hz24 := hS.size
             have lt25_24 := pz25.lt
             replace hS := bthen hS az
             (replace j1 := j1.call az); (replace j2 := j2.call az); (replace j3 := j3.call az); (replace j4 := j4.call az); (replace pz25 := pz25.call az)
             refine hK.out _ _ hS (fun _ => ?_)
             clear hK K az
             generalize hgz : u3.heap.size = gz24 at hz24 pz24 ⊢ lt25_24
             clear hgz
             generalize u3.alloc (.cells #[.bool false, .slice none 0 0] 24) = u3z24 at *
             (try simp only [Act.put, List.setIfInBounds_toArray, List.set_cons_zero, List.set_cons_succ])
             refine wpAnyH_ready (rs := [13]) (by kernel_rfl) (by simp) ?_
             refine AllReadyH.cons (o := ⟨_, _, _, _, _, _⟩) rfl (fun K hK => ?_) AllReadyH.nil
             obtain ⟨q0, q1, f0, f1, k0, k1⟩ := pz24.all (.bool t3) (.slice B3 m3 e3)
             go_simp
             replace hS := below_stored hS hz24 (.bool t3) (.slice B3 m3 e3)
             refine hK.out _ _ hS (fun _ => ?_)
             clear hK K q0 q1 f0 f1 k0 k1
             replace j1 := j1.stored pz24 (.bool t3) (.slice B3 m3 e3)
             replace j2 := j2.stored pz24 (.bool t3) (.slice B3 m3 e3)
             replace j3 := j3.stored pz24 (.bool t3) (.slice B3 m3 e3)
             replace j4 := j4.stored pz24 (.bool t3) (.slice B3 m3 e3)
             replace pz25 := pz25.far (g' := gz24) (by omega) (.bool t3) (.slice B3 m3 e3)
             replace pz24 := pz24.stored (s' := t3) (A' := B3) (n' := m3) (c' := e3)
             (try simp only [Act.put, List.setIfInBounds_toArray, List.set_cons_zero, List.set_cons_succ])
             refine wpAnyH_ready (rs := [14]) (by kernel_rfl) (by simp) ?_
             refine AllReadyH.cons (o := ⟨_, _, _, _, _, _⟩) rfl (fun K hK => ?_) AllReadyH.nil
             obtain ⟨q0, q1, f0, f1, k0, k1⟩ := pz25.all (.bool t4) (.slice B4 m4 e4)
             go_simp
             replace hS := below_stored hS hz25 (.bool t4) (.slice B4 m4 e4)
             refine hK.out _ _ hS (fun _ => ?_)
             clear hK K q0 q1 f0 f1 k0 k1
             replace j1 := j1.stored pz25 (.bool t4) (.slice B4 m4 e4)
             replace j2 := j2.stored pz25 (.bool t4) (.slice B4 m4 e4)
             replace j3 := j3.stored pz25 (.bool t4) (.slice B4 m4 e4)
             replace j4 := j4.stored pz25 (.bool t4) (.slice B4 m4 e4)
             replace pz24 := pz24.far (g' := gz25) (by omega) (.bool t4) (.slice B4 m4 e4)
             replace pz25 := pz25.stored (s' := t4) (A' := B4) (n' := m4) (c' := e4)
             (try simp only [Act.put, List.setIfInBounds_toArray, List.set_cons_zero, List.set_cons_succ])
             refine wpAnyH_take (i := 15) (oi := ⟨_, _, _, _, _, _⟩) (v := ?_) rfl (by kernel_rfl) (by kernel_rfl) (by kernel_rfl) (fun _ _ _ h => h) (Or.inl ⟨by rfl, ?_⟩) hS ?_
             rotate_left
             ·intro w' hS'; (first | (go_simp; done) | (go_simp; with_reducible rfl) | with_reducible rfl)
             (try simp only [Act.put, List.setIfInBounds_toArray, List.set_cons_zero, List.set_cons_succ])
             refine wpAnyH_done (by kernel_rfl) ?_ _
             go_wp2_with fail
             go_meet
             case rel => exact ⟨gz24, gz25, rfl, rfl, hz24, hz25, by omega, ⟨_, _, _, _, pz24, j3⟩, ⟨_, _, _, _, pz25, j4⟩, hS⟩
            ·go_simp
             have pz24 := Pr.new u2 false none 0 0
             have az := bone u2 (.cells #[.bool false, .slice none 0 0] 24)
             have hz24 := hS.size
             have lt25_24 := pz25.lt
             replace hS := bthen hS az
             (replace j1 := j1.call az); (replace j2 := j2.call az); (replace pz25 := pz25.call az)
             refine hK.out _ _ hS (fun _ => ?_)
             clear hK K az
             generalize hgz : u2.heap.size = gz24 at hz24 pz24 ⊢ lt25_24
             clear hgz
             generalize u2.alloc (.cells #[.bool false, .slice none 0 0] 24) = u2z24 at *
             (try simp only [Act.put, List.setIfInBounds_toArray, List.set_cons_zero, List.set_cons_succ])
             refine wpAnyH_ready (rs := [6]) (by kernel_rfl) (by simp) ?_
             refine AllReadyH.cons (o := ⟨_, _, _, _, _, _⟩) rfl (fun K hK => ?_) AllReadyH.nil
             go_simp
             refine (refDivMod_ne _ j2.any (i3.call hS).any (Nat.le_trans (j2.len LD.out) (by omega)) (by omega) hy).mono ?_
             rintro e u3 ⟨t3, B3, m3, e3, t4, B4, m4, e4, rfl, j3, j4, d3⟩
             replace hS := bthen hS d3
             (replace j1 := j1.call d3); (replace j2 := j2.call d3); (replace pz25 := pz25.call d3); (replace pz24 := pz24.call d3)
             first | (with_reducible refine hK.out _ _ hS (fun _ => ?_)) | (go_wp2_with fail; with_reducible refine hK.out _ _ hS (fun _ => ?_))
             clear hK K
             (try simp only [Act.put, List.setIfInBounds_toArray, List.set_cons_zero, List.set_cons_succ])
             refine wpAnyH_take (i := 7) (oi := ⟨_, _, _, _, _, _⟩) (v := ?_) rfl (by kernel_rfl) (by kernel_rfl) (by kernel_rfl) (fun _ _ _ h => h) (Or.inl ⟨by rfl, ?_⟩) hS ?_
             rotate_left
             ·intro w' hS'; (first | (go_simp; done) | (go_simp; with_reducible rfl) | with_reducible rfl)
             (try simp only [Act.put, List.setIfInBounds_toArray, List.set_cons_zero, List.set_cons_succ])
             refine wpAnyH_take (i := 8) (oi := ⟨_, _, _, _, _, _⟩) (v := ?_) rfl (by kernel_rfl) (by kernel_rfl) (by kernel_rfl) (fun _ _ _ h => h) (Or.inl ⟨by rfl, ?_⟩) hS ?_
             rotate_left
             ·intro w' hS'; (first | (go_simp; done) | (go_simp; with_reducible rfl) | with_reducible rfl)
             (try simp only [Act.put, List.setIfInBounds_toArray, List.set_cons_zero, List.set_cons_succ])
             refine wpAnyH_take (i := 9) (oi := ⟨_, _, _, _, _, _⟩) (v := ?_) rfl (by kernel_rfl) (by kernel_rfl) (by kernel_rfl) (fun _ _ _ h => h) (Or.inl ⟨by rfl, ?_⟩) hS ?_
             rotate_left
             ·intro w' hS'; (first | (go_simp; done) | (go_simp; with_reducible rfl) | with_reducible rfl)
             (try simp only [Act.put, List.setIfInBounds_toArray, List.set_cons_zero, List.set_cons_succ])
             refine wpAnyH_take (i := 10) (oi := ⟨_, _, _, _, _, _⟩) (v := ?_) rfl (by kernel_rfl) (by kernel_rfl) (by kernel_rfl) (fun _ _ _ h => h) (Or.inl ⟨by rfl, ?_⟩) hS ?_
             rotate_left
             ·intro w' hS'; (first | (go_simp; done) | (go_simp; with_reducible rfl) | with_reducible rfl)
             (try simp only [Act.put, List.setIfInBounds_toArray, List.set_cons_zero, List.set_cons_succ])
             refine wpAnyH_ready (rs := [13]) (by kernel_rfl) (by simp) ?_
             refine AllReadyH.cons (o := ⟨_, _, _, _, _, _⟩) rfl (fun K hK => ?_) AllReadyH.nil
             obtain ⟨q0, q1, f0, f1, k0, k1⟩ := pz24.all (.bool t3) (.slice B3 m3 e3)
             go_simp
             replace hS := below_stored hS hz24 (.bool t3) (.slice B3 m3 e3)
             refine hK.out _ _ hS (fun _ => ?_)
             clear hK K q0 q1 f0 f1 k0 k1
             replace j1 := j1.stored pz24 (.bool t3) (.slice B3 m3 e3)
             replace j2 := j2.stored pz24 (.bool t3) (.slice B3 m3 e3)
             replace j3 := j3.stored pz24 (.bool t3) (.slice B3 m3 e3)
             replace j4 := j4.stored pz24 (.bool t3) (.slice B3 m3 e3)
             replace pz25 := pz25.far (g' := gz24) (by omega) (.bool t3) (.slice B3 m3 e3)
             replace pz24 := pz24.stored (s' := t3) (A' := B3) (n' := m3) (c' := e3)
             (try simp only [Act.put, List.setIfInBounds_toArray, List.set_cons_zero, List.set_cons_succ])
             refine wpAnyH_ready (rs := [14]) (by kernel_rfl) (by simp) ?_
             refine AllReadyH.cons (o := ⟨_, _, _, _, _, _⟩) rfl (fun K hK => ?_) AllReadyH.nil
             obtain ⟨q0, q1, f0, f1, k0, k1⟩ := pz25.all (.bool t4) (.slice B4 m4 e4)
             go_simp
             replace hS := below_stored hS hz25 (.bool t4) (.slice B4 m4 e4)
             refine hK.out _ _ hS (fun _ => ?_)
             clear hK K q0 q1 f0 f1 k0 k1
             replace j1 := j1.stored pz25 (.bool t4) (.slice B4 m4 e4)
             replace j2 := j2.stored pz25 (.bool t4) (.slice B4 m4 e4)
             replace j3 := j3.stored pz25 (.bool t4) (.slice B4 m4 e4)
             replace j4 := j4.stored pz25 (.bool t4) (.slice B4 m4 e4)
             replace pz24 := pz24.far (g' := gz25) (by omega) (.bool t4) (.slice B4 m4 e4)
             replace pz25 := pz25.stored (s' := t4) (A' := B4) (n' := m4) (c' := e4)
             (try simp only [Act.put, List.setIfInBounds_toArray, List.set_cons_zero, List.set_cons_succ])
             refine wpAnyH_take (i := 15) (oi := ⟨_, _, _, _, _, _⟩) (v := ?_) rfl (by kernel_rfl) (by kernel_rfl) (by kernel_rfl) (fun _ _ _ h => h) (Or.inl ⟨by rfl, ?_⟩) hS ?_
             rotate_left
             ·intro w' hS'; (first | (go_simp; done) | (go_simp; with_reducible rfl) | with_reducible rfl)
             (try simp only [Act.put, List.setIfInBounds_toArray, List.set_cons_zero, List.set_cons_succ])
             refine wpAnyH_done (by kernel_rfl) ?_ _
             go_wp2_with fail
             go_meet
             case rel => exact ⟨gz24, gz25, rfl, rfl, hz24, hz25, by omega, ⟨_, _, _, _, pz24, j3⟩, ⟨_, _, _, _, pz25, j4⟩, hS⟩
           ·go_simp
            have pz24 := Pr.new u1z25 false none 0 0
            have az := bone u1z25 (.cells #[.bool false, .slice none 0 0] 24)
            have hz24 := hS.size
            have lt25_24 := pz25.lt
            replace hS := bthen hS az
            (replace j1 := j1.call az); (replace pz25 := pz25.call az)
            refine hK.out _ _ hS (fun _ => ?_)
            clear hK K az
            generalize hgz : u1z25.heap.size = gz24 at hz24 pz24 ⊢ lt25_24
            clear hgz
            generalize u1z25.alloc (.cells #[.bool false, .slice none 0 0] 24) = u1z25z24 at *
            (try simp only [Act.put, List.setIfInBounds_toArray, List.set_cons_zero, List.set_cons_succ])
            refine wpAnyH_ready (rs := [4]) (by kernel_rfl) (by simp) ?_
            refine AllReadyH.cons (o := ⟨_, _, _, _, _, _⟩) rfl (fun K hK => ?_) AllReadyH.nil
            go_simp
            refine (refSub_any _ (i7.call hS).any j1.any (by omega) (Nat.le_trans (j1.len LP) (by omega))).mono ?_
            rintro e u2 ⟨t2, B2, m2, e2, rfl, j2, d2⟩
            replace hS := bthen hS d2
            (replace j1 := j1.call d2); (replace pz25 := pz25.call d2); (replace pz24 := pz24.call d2)
            first | (with_reducible refine hK.out _ _ hS (fun _ => ?_)) | (go_wp2_with fail; with_reducible refine hK.out _ _ hS (fun _ => ?_))
            clear hK K
            (try simp only [Act.put, List.setIfInBounds_toArray, List.set_cons_zero, List.set_cons_succ])
            refine wpAnyH_ready (rs := [6]) (by kernel_rfl) (by simp) ?_
            refine AllReadyH.cons (o := ⟨_, _, _, _, _, _⟩) rfl (fun K hK => ?_) AllReadyH.nil
            go_simp
            refine (refDivMod_ne _ j2.any (i3.call hS).any (Nat.le_trans (j2.len LD.out) (by omega)) (by omega) hy).mono ?_
            rintro e u3 ⟨t3, B3, m3, e3, t4, B4, m4, e4, rfl, j3, j4, d3⟩
            replace hS := bthen hS d3
            (replace j1 := j1.call d3); (replace j2 := j2.call d3); (replace pz25 := pz25.call d3); (replace pz24 := pz24.call d3)
            first | (with_reducible refine hK.out _ _ hS (fun _ => ?_)) | (go_wp2_with fail; with_reducible refine hK.out _ _ hS (fun _ => ?_))
            clear hK K
            (try simp only [Act.put, List.setIfInBounds_toArray, List.set_cons_zero, List.set_cons_succ])
            refine wpAnyH_take (i := 7) (oi := ⟨_, _, _, _, _, _⟩) (v := ?_) rfl (by kernel_rfl) (by kernel_rfl) (by kernel_rfl) (fun _ _ _ h => h) (Or.inl ⟨by rfl, ?_⟩) hS ?_
            rotate_left
            ·intro w' hS'; (first | (go_simp; done) | (go_simp; with_reducible rfl) | with_reducible rfl)
            (try simp only [Act.put, List.setIfInBounds_toArray, List.set_cons_zero, List.set_cons_succ])
            refine wpAnyH_take (i := 8) (oi := ⟨_, _, _, _, _, _⟩) (v := ?_) rfl (by kernel_rfl) (by kernel_rfl) (by kernel_rfl) (fun _ _ _ h => h) (Or.inl ⟨by rfl, ?_⟩) hS ?_
            rotate_left
            ·intro w' hS'; (first | (go_simp; done) | (go_simp; with_reducible rfl) | with_reducible rfl)
            (try simp only [Act.put, List.setIfInBounds_toArray, List.set_cons_zero, List.set_cons_succ])
            refine wpAnyH_take (i := 9) (oi := ⟨_, _, _, _, _, _⟩) (v := ?_) rfl (by kernel_rfl) (by kernel_rfl) (by kernel_rfl) (fun _ _ _ h => h) (Or.inl ⟨by rfl, ?_⟩) hS ?_
            rotate_left
            ·intro w' hS'; (first | (go_simp; done) | (go_simp; with_reducible rfl) | with_reducible rfl)
            (try simp only [Act.put, List.setIfInBounds_toArray, List.set_cons_zero, List.set_cons_succ])
            refine wpAnyH_take (i := 10) (oi := ⟨_, _, _, _, _, _⟩) (v := ?_) rfl (by kernel_rfl) (by kernel_rfl) (by kernel_rfl) (fun _ _ _ h => h) (Or.inl ⟨by rfl, ?_⟩) hS ?_
            rotate_left
            ·intro w' hS'; (first | (go_simp; done) | (go_simp; with_reducible rfl) | with_reducible rfl)
            (try simp only [Act.put, List.setIfInBounds_toArray, List.set_cons_zero, List.set_cons_succ])
            refine wpAnyH_ready (rs := [13]) (by kernel_rfl) (by simp) ?_
            refine AllReadyH.cons (o := ⟨_, _, _, _, _, _⟩) rfl (fun K hK => ?_) AllReadyH.nil
            obtain ⟨q0, q1, f0, f1, k0, k1⟩ := pz24.all (.bool t3) (.slice B3 m3 e3)
            go_simp
            replace hS := below_stored hS hz24 (.bool t3) (.slice B3 m3 e3)
            refine hK.out _ _ hS (fun _ => ?_)
            clear hK K q0 q1 f0 f1 k0 k1
            replace j1 := j1.stored pz24 (.bool t3) (.slice B3 m3 e3)
            replace j2 := j2.stored pz24 (.bool t3) (.slice B3 m3 e3)
            replace j3 := j3.stored pz24 (.bool t3) (.slice B3 m3 e3)
            replace j4 := j4.stored pz24 (.bool t3) (.slice B3 m3 e3)
            replace pz25 := pz25.far (g' := gz24) (by omega) (.bool t3) (.slice B3 m3 e3)
            replace pz24 := pz24.stored (s' := t3) (A' := B3) (n' := m3) (c' := e3)
            (try simp only [Act.put, List.setIfInBounds_toArray, List.set_cons_zero, List.set_cons_succ])
            refine wpAnyH_ready (rs := [14]) (by kernel_rfl) (by simp) ?_
            refine AllReadyH.cons (o := ⟨_, _, _, _, _, _⟩) rfl (fun K hK => ?_) AllReadyH.nil
            obtain ⟨q0, q1, f0, f1, k0, k1⟩ := pz25.all (.bool t4) (.slice B4 m4 e4)
            go_simp
            replace hS := below_stored hS hz25 (.bool t4) (.slice B4 m4 e4)
            refine hK.out _ _ hS (fun _ => ?_)
            clear hK K q0 q1 f0 f1 k0 k1
            replace j1 := j1.stored pz25 (.bool t4) (.slice B4 m4 e4)
            replace j2 := j2.stored pz25 (.bool t4) (.slice B4 m4 e4)
            replace j3 := j3.stored pz25 (.bool t4) (.slice B4 m4 e4)
            replace j4 := j4.stored pz25 (.bool t4) (.slice B4 m4 e4)
            replace pz24 := pz24.far (g' := gz25) (by omega) (.bool t4) (.slice B4 m4 e4)
            replace pz25 := pz25.stored (s' := t4) (A' := B4) (n' := m4) (c' := e4)
            (try simp only [Act.put, List.setIfInBounds_toArray, List.set_cons_zero, List.set_cons_succ])
            refine wpAnyH_take (i := 15) (oi := ⟨_, _, _, _, _, _⟩) (v := ?_) rfl (by kernel_rfl) (by kernel_rfl) (by kernel_rfl) (fun _ _ _ h => h) (Or.inl ⟨by rfl, ?_⟩) hS ?_
            rotate_left
            ·intro w' hS'; (first | (go_simp; done) | (go_simp; with_reducible rfl) | with_reducible rfl)
            (try simp only [Act.put, List.setIfInBounds_toArray, List.set_cons_zero, List.set_cons_succ])
            refine wpAnyH_done (by kernel_rfl) ?_ _
            go_wp2_with fail
            go_meet
            case rel => exact ⟨gz24, gz25, rfl, rfl, hz24, hz25, by omega, ⟨_, _, _, _, pz24, j3⟩, ⟨_, _, _, _, pz25, j4⟩, hS⟩
         ·go_simp
          have pz24 := Pr.new u0 false none 0 0
          have az := bone u0 (.cells #[.bool false, .slice none 0 0] 24)
          have hz24 := hS.size
          replace hS := bthen hS az
          refine hK.out _ _ hS (fun _ => ?_)
          clear hK K az
          generalize hgz : u0.heap.size = gz24 at hz24 pz24 ⊢
          clear hgz
          generalize u0.alloc (.cells #[.bool false, .slice none 0 0] 24) = u0z24 at *
          (try simp only [Act.put, List.setIfInBounds_toArray, List.set_cons_zero, List.set_cons_succ])
          refine wpAnyH_ready (rs := [3, 12]) (by kernel_rfl) (by simp) ?_
          refine AllReadyH.cons (o := ⟨_, _, _, _, _, _⟩) rfl (fun K hK => ?_) (AllReadyH.cons (o := ⟨_, _, _, _, _, _⟩) rfl (fun K hK => ?_) AllReadyH.nil)
          ·go_simp
           refine (refMul_any _ (i2.call hS).any (i22.call hS).any (by omega) (by omega)).mono ?_
           rintro e u1 ⟨t1, B1, m1, e1, rfl, j1, d1⟩
           replace hS := bthen hS d1
           (replace pz24 := pz24.call d1)
           first | (with_reducible refine hK.out _ _ hS (fun _ => ?_)) | (go_wp2_with fail; with_reducible refine hK.out _ _ hS (fun _ => ?_))
           clear hK K
           (try simp only [Act.put, List.setIfInBounds_toArray, List.set_cons_zero, List.set_cons_succ])
           refine wpAnyH_ready (rs := [4, 12]) (by kernel_rfl) (by simp) ?_
           refine AllReadyH.cons (o := ⟨_, _, _, _, _, _⟩) rfl (fun K hK => ?_) (AllReadyH.cons (o := ⟨_, _, _, _, _, _⟩) rfl (fun K hK => ?_) AllReadyH.nil)
           ·go_simp
            refine (refSub_any _ (i7.call hS).any j1.any (by omega) (Nat.le_trans (j1.len LP) (by omega))).mono ?_
            rintro e u2 ⟨t2, B2, m2, e2, rfl, j2, d2⟩
            replace hS := bthen hS d2
            (replace j1 := j1.call d2); (replace pz24 := pz24.call d2)
            first | (with_reducible refine hK.out _ _ hS (fun _ => ?_)) | (go_wp2_with fail; with_reducible refine hK.out _ _ hS (fun _ => ?_))
            clear hK K
            (try simp only [Act.put, List.setIfInBounds_toArray, List.set_cons_zero, List.set_cons_succ])
            refine wpAnyH_ready (rs := [6, 12]) (by kernel_rfl) (by simp) ?_
            refine AllReadyH.cons (o := ⟨_, _, _, _, _, _⟩) rfl (fun K hK => ?_) (AllReadyH.cons (o := ⟨_, _, _, _, _, _⟩) rfl (fun K hK => ?_) AllReadyH.nil)
            ·go_simp
             refine (refDivMod_ne _ j2.any (i3.call hS).any (Nat.le_trans (j2.len LD.out) (by omega)) (by omega) hy).mono ?_
             rintro e u3 ⟨t3, B3, m3, e3, t4, B4, m4, e4, rfl, j3, j4, d3⟩
             replace hS := bthen hS d3
             (replace j1 := j1.call d3); (replace j2 := j2.call d3); (replace pz24 := pz24.call d3)
             first | (with_reducible refine hK.out _ _ hS (fun _ => ?_)) | (go_wp2_with fail; with_reducible refine hK.out _ _ hS (fun _ => ?_))
             clear hK K
             (try simp only [Act.put, List.setIfInBounds_toArray, List.set_cons_zero, List.set_cons_succ])
             refine wpAnyH_take (i := 7) (oi := ⟨_, _, _, _, _, _⟩) (v := ?_) rfl (by kernel_rfl) (by kernel_rfl) (by kernel_rfl) (fun _ _ _ h => h) (Or.inl ⟨by rfl, ?_⟩) hS ?_
             rotate_left
             ·intro w' hS'; (first | (go_simp; done) | (go_simp; with_reducible rfl) | with_reducible rfl)
             (try simp only [Act.put, List.setIfInBounds_toArray, List.set_cons_zero, List.set_cons_succ])
             refine wpAnyH_take (i := 8) (oi := ⟨_, _, _, _, _, _⟩) (v := ?_) rfl (by kernel_rfl) (by kernel_rfl) (by kernel_rfl) (fun _ _ _ h => h) (Or.inl ⟨by rfl, ?_⟩) hS ?_
             rotate_left
             ·intro w' hS'; (first | (go_simp; done) | (go_simp; with_reducible rfl) | with_reducible rfl)
             (try simp only [Act.put, List.setIfInBounds_toArray, List.set_cons_zero, List.set_cons_succ])
             refine wpAnyH_take (i := 9) (oi := ⟨_, _, _, _, _, _⟩) (v := ?_) rfl (by kernel_rfl) (by kernel_rfl) (by kernel_rfl) (fun _ _ _ h => h) (Or.inl ⟨by rfl, ?_⟩) hS ?_
             rotate_left
             ·intro w' hS'; (first | (go_simp; done) | (go_simp; with_reducible rfl) | with_reducible rfl)
             (try simp only [Act.put, List.setIfInBounds_toArray, List.set_cons_zero, List.set_cons_succ])
             refine wpAnyH_take (i := 10) (oi := ⟨_, _, _, _, _, _⟩) (v := ?_) rfl (by kernel_rfl) (by kernel_rfl) (by kernel_rfl) (fun _ _ _ h => h) (Or.inl ⟨by rfl, ?_⟩) hS ?_
             rotate_left
             ·intro w' hS'; (first | (go_simp; done) | (go_simp; with_reducible rfl) | with_reducible rfl)
             (try simp only [Act.put, List.setIfInBounds_toArray, List.set_cons_zero, List.set_cons_succ])
             refine wpAnyH_ready (rs := [12]) (by kernel_rfl) (by simp) ?_
             refine AllReadyH.cons (o := ⟨_, _, _, _, _, _⟩) rfl (fun K hK => ?_) AllReadyH.nil
             go_simp
             have pz25 := Pr.new u3 false none 0 0
             have az := bone u3 (.cells #[.bool false, .slice none 0 0] 24)
             have hz25 := hS.size
             have lt24_25 := pz24.lt
             replace hS := bthen hS az
             (replace j1 := j1.call az); (replace j2 := j2.call az); (replace j3 := j3.call az); (replace j4 := j4.call az); (replace pz24 := pz24.call az)
             refine hK.out _ _ hS (fun _ => ?_)
             clear hK K az
             generalize hgz : u3.heap.size = gz25 at hz25 pz25 ⊢ lt24_25
             clear hgz
             generalize u3.alloc (.cells #[.bool false, .slice none 0 0] 24) = u3z25 at *
             (try simp only [Act.put, List.setIfInBounds_toArray, List.set_cons_zero, List.set_cons_succ])
             refine wpAnyH_ready (rs := [13]) (by kernel_rfl) (by simp) ?_
             refine AllReadyH.cons (o := ⟨_, _, _, _, _, _⟩) rfl (fun K hK => ?_) AllReadyH.nil
             obtain ⟨q0, q1, f0, f1, k0, k1⟩ := pz24.all (.bool t3) (.slice B3 m3 e3)
             go_simp
             replace hS := below_stored hS hz24 (.bool t3) (.slice B3 m3 e3)
             refine hK.out _ _ hS (fun _ => ?_)
             clear hK K q0 q1 f0 f1 k0 k1
             replace j1 := j1.stored pz24 (.bool t3) (.slice B3 m3 e3)
             replace j2 := j2.stored pz24 (.bool t3) (.slice B3 m3 e3)
             replace j3 := j3.stored pz24 (.bool t3) (.slice B3 m3 e3)
             replace j4 := j4.stored pz24 (.bool t3) (.slice B3 m3 e3)
             replace pz25 := pz25.far (g' := gz24) (by omega) (.bool t3) (.slice B3 m3 e3)
             replace pz24 := pz24.stored (s' := t3) (A' := B3) (n' := m3) (c' := e3)
             (try simp only [Act.put, List.setIfInBounds_toArray, List.set_cons_zero, List.set_cons_succ])
             refine wpAnyH_ready (rs := [14]) (by kernel_rfl) (by simp) ?_
             refine AllReadyH.cons (o := ⟨_, _, _, _, _, _⟩) rfl (fun K hK => ?_) AllReadyH.nil
             obtain ⟨q0, q1, f0, f1, k0, k1⟩ := pz25.all (.bool t4) (.slice B4 m4 e4)
             go_simp
             replace hS := below_stored hS hz25 (.bool t4) (.slice B4 m4 e4)
             refine hK.out _ _ hS (fun _ => ?_)
             clear hK K q0 q1 f0 f1 k0 k1
             replace j1 := j1.stored pz25 (.bool t4) (.slice B4 m4 e4)
             replace j2 := j2.stored pz25 (.bool t4) (.slice B4 m4 e4)
             replace j3 := j3.stored pz25 (.bool t4) (.slice B4 m4 e4)
             replace j4 := j4.stored pz25 (.bool t4) (.slice B4 m4 e4)
             replace pz24 := pz24.far (g' := gz25) (by omega) (.bool t4) (.slice B4 m4 e4)
             replace pz25 := pz25.stored (s' := t4) (A' := B4) (n' := m4) (c' := e4)
             (try simp only [Act.put, List.setIfInBounds_toArray, List.set_cons_zero, List.set_cons_succ])
             refine wpAnyH_take (i := 15) (oi := ⟨_, _, _, _, _, _⟩) (v := ?_) rfl (by kernel_rfl) (by kernel_rfl) (by kernel_rfl) (fun _ _ _ h => h) (Or.inl ⟨by rfl, ?_⟩) hS ?_
             rotate_left
             ·intro w' hS'; (first | (go_simp; done) | (go_simp; with_reducible rfl) | with_reducible rfl)
             (try simp only [Act.put, List.setIfInBounds_toArray, List.set_cons_zero, List.set_cons_succ])
             refine wpAnyH_done (by kernel_rfl) ?_ _
             go_wp2_with fail
             go_meet
             case rel => exact ⟨gz24, gz25, rfl, rfl, hz24, hz25, by omega, ⟨_, _, _, _, pz24, j3⟩, ⟨_, _, _, _, pz25, j4⟩, hS⟩
            ·go_simp
             have pz25 := Pr.new u2 false none 0 0
             have az := bone u2 (.cells #[.bool false, .slice none 0 0] 24)
             have hz25 := hS.size
             have lt24_25 := pz24.lt
             replace hS := bthen hS az
             (replace j1 := j1.call az); (replace j2 := j2.call az); (replace pz24 := pz24.call az)
             refine hK.out _ _ hS (fun _ => ?_)
             clear hK K az
             generalize hgz : u2.heap.size = gz25 at hz25 pz25 ⊢ lt24_25
             clear hgz
             generalize u2.alloc (.cells #[.bool false, .slice none 0 0] 24) = u2z25 at *
             (try simp only [Act.put, List.setIfInBounds_toArray, List.set_cons_zero, List.set_cons_succ])
             refine wpAnyH_ready (rs := [6]) (by kernel_rfl) (by simp) ?_
             refine AllReadyH.cons (o := ⟨_, _, _, _, _, _⟩) rfl (fun K hK => ?_) AllReadyH.nil
             go_simp
             refine (refDivMod_ne _ j2.any (i3.call hS).any (Nat.le_trans (j2.len LD.out) (by omega)) (by omega) hy).mono ?_
             rintro e u3 ⟨t3, B3, m3, e3, t4, B4, m4, e4, rfl, j3, j4, d3⟩
             replace hS := bthen hS d3
             (replace j1 := j1.call d3); (replace j2 := j2.call d3); (replace pz24 := pz24.call d3); (replace pz25 := pz25.call d3)
             first | (with_reducible refine hK.out _ _ hS (fun _ => ?_)) | (go_wp2_with fail; with_reducible refine hK.out _ _ hS (fun _ => ?_))
             clear hK K
             (try simp only [Act.put, List.setIfInBounds_toArray, List.set_cons_zero, List.set_cons_succ])
             refine wpAnyH_take (i := 7) (oi := ⟨_, _, _, _, _, _⟩) (v := ?_) rfl (by kernel_rfl) (by kernel_rfl) (by kernel_rfl) (fun _ _ _ h => h) (Or.inl ⟨by rfl, ?_⟩) hS ?_
             rotate_left
             ·intro w' hS'; (first | (go_simp; done) | (go_simp; with_reducible rfl) | with_reducible rfl)
             (try simp only [Act.put, List.setIfInBounds_toArray, List.set_cons_zero, List.set_cons_succ])
             refine wpAnyH_take (i := 8) (oi := ⟨_, _, _, _, _, _⟩) (v := ?_) rfl (by kernel_rfl) (by kernel_rfl) (by kernel_rfl) (fun _ _ _ h => h) (Or.inl ⟨by rfl, ?_⟩) hS ?_
             rotate_left
             ·intro w' hS'; (first | (go_simp; done) | (go_simp; with_reducible rfl) | with_reducible rfl)
             (try simp only [Act.put, List.setIfInBounds_toArray, List.set_cons_zero, List.set_cons_succ])
             refine wpAnyH_take (i := 9) (oi := ⟨_, _, _, _, _, _⟩) (v := ?_) rfl (by kernel_rfl) (by kernel_rfl) (by kernel_rfl) (fun _ _ _ h => h) (Or.inl ⟨by rfl, ?_⟩) hS ?_
             rotate_left
             ·intro w' hS'; (first | (go_simp; done) | (go_simp; with_reducible rfl) | with_reducible rfl)
             (try simp only [Act.put, List.setIfInBounds_toArray, List.set_cons_zero, List.set_cons_succ])
             refine wpAnyH_take (i := 10) (oi := ⟨_, _, _, _, _, _⟩) (v := ?_) rfl (by kernel_rfl) (by kernel_rfl) (by kernel_rfl) (fun _ _ _ h => h) (Or.inl ⟨by rfl, ?_⟩) hS ?_
             rotate_left
             ·intro w' hS'; (first | (go_simp; done) | (go_simp; with_reducible rfl) | with_reducible rfl)
             (try simp only [Act.put, List.setIfInBounds_toArray, List.set_cons_zero, List.set_cons_succ])
             refine wpAnyH_ready (rs := [13]) (by kernel_rfl) (by simp) ?_
             refine AllReadyH.cons (o := ⟨_, _, _, _, _, _⟩) rfl (fun K hK => ?_) AllReadyH.nil
             obtain ⟨q0, q1, f0, f1, k0, k1⟩ := pz24.all (.bool t3) (.slice B3 m3 e3)
             go_simp
             replace hS := below_stored hS hz24 (.bool t3) (.slice B3 m3 e3)
             refine hK.out _ _ hS (fun _ => ?_)
             clear hK K q0 q1 f0 f1 k0 k1
             replace j1 := j1.stored pz24 (.bool t3) (.slice B3 m3 e3)
             replace j2 := j2.stored pz24 (.bool t3) (.slice B3 m3 e3)
             replace j3 := j3.stored pz24 (.bool t3) (.slice B3 m3 e3)
             replace j4 := j4.stored pz24 (.bool t3) (.slice B3 m3 e3)
             replace pz25 := pz25.far (g' := gz24) (by omega) (.bool t3) (.slice B3 m3 e3)
             replace pz24 := pz24.stored (s' := t3) (A' := B3) (n' := m3) (c' := e3)
             (try simp only [Act.put, List.setIfInBounds_toArray, List.set_cons_zero, List.set_cons_succ])
             refine wpAnyH_ready (rs := [14]) (by kernel_rfl) (by simp) ?_
             refine AllReadyH.cons (o := ⟨_, _, _, _, _, _⟩) rfl (fun K hK => ?_) AllReadyH.nil
             obtain ⟨q0, q1, f0, f1, k0, k1⟩ := pz25.all (.bool t4) (.slice B4 m4 e4)
             go_simp
             replace hS := below_stored hS hz25 (.bool t4) (.slice B4 m4 e4)
             refine hK.out _ _ hS (fun _ => ?_)
             clear hK K q0 q1 f0 f1 k0 k1
             replace j1 := j1.stored pz25 (.bool t4) (.slice B4 m4 e4)
             replace j2 := j2.stored pz25 (.bool t4) (.slice B4 m4 e4)
             replace j3 := j3.stored pz25 (.bool t4) (.slice B4 m4 e4)
             replace j4 := j4.stored pz25 (.bool t4) (.slice B4 m4 e4)
             replace pz24 := pz24.far (g' := gz25) (by omega) (.bool t4) (.slice B4 m4 e4)
             replace pz25 := pz25.stored (s' := t4) (A' := B4) (n' := m4) (c' := e4)
             (try simp only [Act.put, List.setIfInBounds_toArray, List.set_cons_zero, List.set_cons_succ])
             refine wpAnyH_take (i := 15) (oi := ⟨_, _, _, _, _, _⟩) (v := ?_) rfl (by kernel_rfl) (by kernel_rfl) (by kernel_rfl) (fun _ _ _ h => h) (Or.inl ⟨by rfl, ?_⟩) hS ?_
             rotate_left
             ·intro w' hS'; (first | (go_simp; done) | (go_simp; with_reducible rfl) | with_reducible rfl)
             (try simp only [Act.put, List.setIfInBounds_toArray, List.set_cons_zero, List.set_cons_succ])
             refine wpAnyH_done (by kernel_rfl) ?_ _
             go_wp2_with fail
             go_meet
             case rel => exact ⟨gz24, gz25, rfl, rfl, hz24, hz25, by omega, ⟨_, _, _, _, pz24, j3⟩, ⟨_, _, _, _, pz25, j4⟩, hS⟩
           ·go_simp
            have pz25 := Pr.new u1 false none 0 0
            have az := bone u1 (.cells #[.bool false, .slice none 0 0] 24)
            have hz25 := hS.size
            have lt24_25 := pz24.lt
            replace hS := bthen hS az
            (replace j1 := j1.call az); (replace pz24 := pz24.call az)
            refine hK.out _ _ hS (fun _ => ?_)
            clear hK K az
            generalize hgz : u1.heap.size = gz25 at hz25 pz25 ⊢ lt24_25
            clear hgz
            generalize u1.alloc (.cells #[.bool false, .slice none 0 0] 24) = u1z25 at *
            (try simp only [Act.put, List.setIfInBounds_toArray, List.set_cons_zero, List.set_cons_succ])
            refine wpAnyH_ready (rs := [4]) (by kernel_rfl) (by simp) ?_
            refine AllReadyH.cons (o := ⟨_, _, _, _, _, _⟩) rfl (fun K hK => ?_) AllReadyH.nil
            go_simp
            refine (refSub_any _ (i7.call hS).any j1.any (by omega) (Nat.le_trans (j1.len LP) (by omega))).mono ?_
            rintro e u2 ⟨t2, B2, m2, e2, rfl, j2, d2⟩
            replace hS := bthen hS d2
            (replace j1 := j1.call d2); (replace pz24 := pz24.call d2); (replace pz25 := pz25.call d2)
            first | (with_reducible refine hK.out _ _ hS (fun _ => ?_)) | (go_wp2_with fail; with_reducible refine hK.out _ _ hS (fun _ => ?_))
            clear hK K
            (try simp only [Act.put, List.setIfInBounds_toArray, List.set_cons_zero, List.set_cons_succ])
            refine wpAnyH_ready (rs := [6]) (by kernel_rfl) (by simp) ?_
            refine AllReadyH.cons (o := ⟨_, _, _, _, _, _⟩) rfl (fun K hK => ?_) AllReadyH.nil
            go_simp
            refine (refDivMod_ne _ j2.any (i3.call hS).any (Nat.le_trans (j2.len LD.out) (by omega)) (by omega) hy).mono ?_
            rintro e u3 ⟨t3, B3, m3, e3, t4, B4, m4, e4, rfl, j3, j4, d3⟩
            replace hS := bthen hS d3
            (replace j1 := j1.call d3); (replace j2 := j2.call d3); (replace pz24 := pz24.call d3); (replace pz25 := pz25.call d3)
            first | (with_reducible refine hK.out _ _ hS (fun _ => ?_)) | (go_wp2_with fail; with_reducible refine hK.out _ _ hS (fun _ => ?_))
            clear hK K
            (try simp only [Act.put, List.setIfInBounds_toArray, List.set_cons_zero, List.set_cons_succ])
            refine wpAnyH_take (i := 7) (oi := ⟨_, _, _, _, _, _⟩) (v := ?_) rfl (by kernel_rfl) (by kernel_rfl) (by kernel_rfl) (fun _ _ _ h => h) (Or.inl ⟨by rfl, ?_⟩) hS ?_
            rotate_left
            ·intro w' hS'; (first | (go_simp; done) | (go_simp; with_reducible rfl) | with_reducible rfl)
            (try simp only [Act.put, List.setIfInBounds_toArray, List.set_cons_zero, List.set_cons_succ])
            refine wpAnyH_take (i := 8) (oi := ⟨_, _, _, _, _, _⟩) (v := ?_) rfl (by kernel_rfl) (by kernel_rfl) (by kernel_rfl) (fun _ _ _ h => h) (Or.inl ⟨by rfl, ?_⟩) hS ?_
            rotate_left
            ·intro w' hS'; (first | (go_simp; done) | (go_simp; with_reducible rfl) | with_reducible rfl)
            (try simp only [Act.put, List.setIfInBounds_toArray, List.set_cons_zero, List.set_cons_succ])
            refine wpAnyH_take (i := 9) (oi := ⟨_, _, _, _, _, _⟩) (v := ?_) rfl (by kernel_rfl) (by kernel_rfl) (by kernel_rfl) (fun _ _ _ h => h) (Or.inl ⟨by rfl, ?_⟩) hS ?_
            rotate_left
            ·intro w' hS'; (first | (go_simp; done) | (go_simp; with_reducible rfl) | with_reducible rfl)
            (try simp only [Act.put, List.setIfInBounds_toArray, List.set_cons_zero, List.set_cons_succ])
            refine wpAnyH_take (i := 10) (oi := ⟨_, _, _, _, _, _⟩) (v := ?_) rfl (by kernel_rfl) (by kernel_rfl) (by kernel_rfl) (fun _ _ _ h => h) (Or.inl ⟨by rfl, ?_⟩) hS ?_
            rotate_left
            ·intro w' hS'; (first | (go_simp; done) | (go_simp; with_reducible rfl) | with_reducible rfl)
            (try simp only [Act.put, List.setIfInBounds_toArray, List.set_cons_zero, List.set_cons_succ])
            refine wpAnyH_ready (rs := [13]) (by kernel_rfl) (by simp) ?_
            refine AllReadyH.cons (o := ⟨_, _, _, _, _, _⟩) rfl (fun K hK => ?_) AllReadyH.nil
            obtain ⟨q0, q1, f0, f1, k0, k1⟩ := pz24.all (.bool t3) (.slice B3 m3 e3)
            go_simp
            replace hS := below_stored hS hz24 (.bool t3) (.slice B3 m3 e3)
            refine hK.out _ _ hS (fun _ => ?_)
            clear hK K q0 q1 f0 f1 k0 k1
            replace j1 := j1.stored pz24 (.bool t3) (.slice B3 m3 e3)
            replace j2 := j2.stored pz24 (.bool t3) (.slice B3 m3 e3)
            replace j3 := j3.stored pz24 (.bool t3) (.slice B3 m3 e3)
            replace j4 := j4.stored pz24 (.bool t3) (.slice B3 m3 e3)
            replace pz25 := pz25.far (g' := gz24) (by omega) (.bool t3) (.slice B3 m3 e3)
            replace pz24 := pz24.stored (s' := t3) (A' := B3) (n' := m3) (c' := e3)
            (try simp only [Act.put, List.setIfInBounds_toArray, List.set_cons_zero, List.set_cons_succ])
            refine wpAnyH_ready (rs := [14]) (by kernel_rfl) (by simp) ?_
            refine AllReadyH.cons (o := ⟨_, _, _, _, _, _⟩) rfl (fun K hK => ?_) AllReadyH.nil
            obtain ⟨q0, q1, f0, f1, k0, k1⟩ := pz25.all (.bool t4) (.slice B4 m4 e4)
            go_simp
            replace hS := below_stored hS hz25 (.bool t4) (.slice B4 m4 e4)
            refine hK.out _ _ hS (fun _ => ?_)
            clear hK K q0 q1 f0 f1 k0 k1
            replace j1 := j1.stored pz25 (.bool t4) (.slice B4 m4 e4)
            replace j2 := j2.stored pz25 (.bool t4) (.slice B4 m4 e4)
            replace j3 := j3.stored pz25 (.bool t4) (.slice B4 m4 e4)
            replace j4 := j4.stored pz25 (.bool t4) (.slice B4 m4 e4)
            replace pz24 := pz24.far (g' := gz25) (by omega) (.bool t4) (.slice B4 m4 e4)
            replace pz25 := pz25.stored (s' := t4) (A' := B4) (n' := m4) (c' := e4)
            (try simp only [Act.put, List.setIfInBounds_toArray, List.set_cons_zero, List.set_cons_succ])
            refine wpAnyH_take (i := 15) (oi := ⟨_, _, _, _, _, _⟩) (v := ?_) rfl (by kernel_rfl) (by kernel_rfl) (by kernel_rfl) (fun _ _ _ h => h) (Or.inl ⟨by rfl, ?_⟩) hS ?_
            rotate_left
            ·intro w' hS'; (first | (go_simp; done) | (go_simp; with_reducible rfl) | with_reducible rfl)
            (try simp only [Act.put, List.setIfInBounds_toArray, List.set_cons_zero, List.set_cons_succ])
            refine wpAnyH_done (by kernel_rfl) ?_ _
            go_wp2_with fail
            go_meet
            case rel => exact ⟨gz24, gz25, rfl, rfl, hz24, hz25, by omega, ⟨_, _, _, _, pz24, j3⟩, ⟨_, _, _, _, pz25, j4⟩, hS⟩
          ·go_simp
           have pz25 := Pr.new u0z24 false none 0 0
           have az := bone u0z24 (.cells #[.bool false, .slice none 0 0] 24)
           have hz25 := hS.size
           have lt24_25 := pz24.lt
           replace hS := bthen hS az
           (replace pz24 := pz24.call az)
           refine hK.out _ _ hS (fun _ => ?_)
           clear hK K az
           generalize hgz : u0z24.heap.size = gz25 at hz25 pz25 ⊢ lt24_25
           clear hgz
           generalize u0z24.alloc (.cells #[.bool false, .slice none 0 0] 24) = u0z24z25 at *
           (try simp only [Act.put, List.setIfInBounds_toArray, List.set_cons_zero, List.set_cons_succ])
           refine wpAnyH_ready (rs := [3]) (by kernel_rfl) (by simp) ?_
           refine AllReadyH.cons (o := ⟨_, _, _, _, _, _⟩) rfl (fun K hK => ?_) AllReadyH.nil
           go_simp
           refine (refMul_any _ (i2.call hS).any (i22.call hS).any (by omega) (by omega)).mono ?_
           rintro e u1 ⟨t1, B1, m1, e1, rfl, j1, d1⟩
           replace hS := bthen hS d1
           (replace pz24 := pz24.call d1); (replace pz25 := pz25.call d1)
           first | (with_reducible refine hK.out _ _ hS (fun _ => ?_)) | (go_wp2_with fail; with_reducible refine hK.out _ _ hS (fun _ => ?_))
           clear hK K
           (try simp only [Act.put, List.setIfInBounds_toArray, List.set_cons_zero, List.set_cons_succ])
           refine wpAnyH_ready (rs := [4]) (by kernel_rfl) (by simp) ?_
           refine AllReadyH.cons (o := ⟨_, _, _, _, _, _⟩) rfl (fun K hK => ?_) AllReadyH.nil
           go_simp
           refine (refSub_any _ (i7.call hS).any j1.any (by omega) (Nat.le_trans (j1.len LP) (by omega))).mono ?_
           rintro e u2 ⟨t2, B2, m2, e2, rfl, j2, d2⟩
           replace hS := bthen hS d2
           (replace j1 := j1.call d2); (replace pz24 := pz24.call d2); (replace pz25 := pz25.call d2)
           first | (with_reducible refine hK.out _ _ hS (fun _ => ?_)) | (go_wp2_with fail; with_reducible refine hK.out _ _ hS (fun _ => ?_))
           clear hK K
           (try simp only [Act.put, List.setIfInBounds_toArray, List.set_cons_zero, List.set_cons_succ])
           refine wpAnyH_ready (rs := [6]) (by kernel_rfl) (by simp) ?_
           refine AllReadyH.cons (o := ⟨_, _, _, _, _, _⟩) rfl (fun K hK => ?_) AllReadyH.nil
           go_simp
           refine (refDivMod_ne _ j2.any (i3.call hS).any (Nat.le_trans (j2.len LD.out) (by omega)) (by omega) hy).mono ?_
           rintro e u3 ⟨t3, B3, m3, e3, t4, B4, m4, e4, rfl, j3, j4, d3⟩
           replace hS := bthen hS d3
           (replace j1 := j1.call d3); (replace j2 := j2.call d3); (replace pz24 := pz24.call d3); (replace pz25 := pz25.call d3)
           first | (with_reducible refine hK.out _ _ hS (fun _ => ?_)) | (go_wp2_with fail; with_reducible refine hK.out _ _ hS (fun _ => ?_))
           clear hK K
           (try simp only [Act.put, List.setIfInBounds_toArray, List.set_cons_zero, List.set_cons_succ])
           refine wpAnyH_take (i := 7) (oi := ⟨_, _, _, _, _, _⟩) (v := ?_) rfl (by kernel_rfl) (by kernel_rfl) (by kernel_rfl) (fun _ _ _ h => h) (Or.inl ⟨by rfl, ?_⟩) hS ?_
           rotate_left
           ·intro w' hS'; (first | (go_simp; done) | (go_simp; with_reducible rfl) | with_reducible rfl)
           (try simp only [Act.put, List.setIfInBounds_toArray, List.set_cons_zero, List.set_cons_succ])
           refine wpAnyH_take (i := 8) (oi := ⟨_, _, _, _, _, _⟩) (v := ?_) rfl (by kernel_rfl) (by kernel_rfl) (by kernel_rfl) (fun _ _ _ h => h) (Or.inl ⟨by rfl, ?_⟩) hS ?_
           rotate_left
           ·intro w' hS'; (first | (go_simp; done) | (go_simp; with_reducible rfl) | with_reducible rfl)
           (try simp only [Act.put, List.setIfInBounds_toArray, List.set_cons_zero, List.set_cons_succ])
           refine wpAnyH_take (i := 9) (oi := ⟨_, _, _, _, _, _⟩) (v := ?_) rfl (by kernel_rfl) (by kernel_rfl) (by kernel_rfl) (fun _ _ _ h => h) (Or.inl ⟨by rfl, ?_⟩) hS ?_
           rotate_left
           ·intro w' hS'; (first | (go_simp; done) | (go_simp; with_reducible rfl) | with_reducible rfl)
           (try simp only [Act.put, List.setIfInBounds_toArray, List.set_cons_zero, List.set_cons_succ])
           refine wpAnyH_take (i := 10) (oi := ⟨_, _, _, _, _, _⟩) (v := ?_) rfl (by kernel_rfl) (by kernel_rfl) (by kernel_rfl) (fun _ _ _ h => h) (Or.inl ⟨by rfl, ?_⟩) hS ?_
           rotate_left
           ·intro w' hS'; (first | (go_simp; done) | (go_simp; with_reducible rfl) | with_reducible rfl)
           (try simp only [Act.put, List.setIfInBounds_toArray, List.set_cons_zero, List.set_cons_succ])
           refine wpAnyH_ready (rs := [13]) (by kernel_rfl) (by simp) ?_
           refine AllReadyH.cons (o := ⟨_, _, _, _, _, _⟩) rfl (fun K hK => ?_) AllReadyH.nil
           obtain ⟨q0, q1, f0, f1, k0, k1⟩ := pz24.all (.bool t3) (.slice B3 m3 e3)
           go_simp
           replace hS := below_stored hS hz24 (.bool t3) (.slice B3 m3 e3)
           refine hK.out _ _ hS (fun _ => ?_)
           clear hK K q0 q1 f0 f1 k0 k1
           replace j1 := j1.stored pz24 (.bool t3) (.slice B3 m3 e3)
           replace j2 := j2.stored pz24 (.bool t3) (.slice B3 m3 e3)
           replace j3 := j3.stored pz24 (.bool t3) (.slice B3 m3 e3)
           replace j4 := j4.stored pz24 (.bool t3) (.slice B3 m3 e3)
           replace pz25 := pz25.far (g' := gz24) (by omega) (.bool t3) (.slice B3 m3 e3)
           replace pz24 := pz24.stored (s' := t3) (A' := B3) (n' := m3) (c' := e3)
           (try simp only [Act.put, List.setIfInBounds_toArray, List.set_cons_zero, List.set_cons_succ])
           refine wpAnyH_ready (rs := [14]) (by kernel_rfl) (by simp) ?_
           refine AllReadyH.cons (o := ⟨_, _, _, _, _, _⟩) rfl (fun K hK => ?_) AllReadyH.nil
           obtain ⟨q0, q1, f0, f1, k0, k1⟩ := pz25.all (.bool t4) (.slice B4 m4 e4)
           go_simp
           replace hS := below_stored hS hz25 (.bool t4) (.slice B4 m4 e4)
           refine hK.out _ _ hS (fun _ => ?_)
           clear hK K q0 q1 f0 f1 k0 k1
           replace j1 := j1.stored pz25 (.bool t4) (.slice B4 m4 e4)
           replace j2 := j2.stored pz25 (.bool t4) (.slice B4 m4 e4)
           replace j3 := j3.stored pz25 (.bool t4) (.slice B4 m4 e4)
           replace j4 := j4.stored pz25 (.bool t4) (.slice B4 m4 e4)
           replace pz24 := pz24.far (g' := gz25) (by omega) (.bool t4) (.slice B4 m4 e4)
           replace pz25 := pz25.stored (s' := t4) (A' := B4) (n' := m4) (c' := e4)
           (try simp only [Act.put, List.setIfInBounds_toArray, List.set_cons_zero, List.set_cons_succ])
           refine wpAnyH_take (i := 15) (oi := ⟨_, _, _, _, _, _⟩) (v := ?_) rfl (by kernel_rfl) (by kernel_rfl) (by kernel_rfl) (fun _ _ _ h => h) (Or.inl ⟨by rfl, ?_⟩) hS ?_
           rotate_left
           ·intro w' hS'; (first | (go_simp; done) | (go_simp; with_reducible rfl) | with_reducible rfl)
           (try simp only [Act.put, List.setIfInBounds_toArray, List.set_cons_zero, List.set_cons_succ])
           refine wpAnyH_done (by kernel_rfl) ?_ _
           go_wp2_with fail
           go_meet
           case rel => exact ⟨gz24, gz25, rfl, rfl, hz24, hz25, by omega, ⟨_, _, _, _, pz24, j3⟩, ⟨_, _, _, _, pz25, j4⟩, hS⟩
         ·go_simp
          have pz25 := Pr.new u0 false none 0 0
          have az := bone u0 (.cells #[.bool false, .slice none 0 0] 24)
          have hz25 := hS.size
          replace hS := bthen hS az
          refine hK.out _ _ hS (fun _ => ?_)
          clear hK K az
          generalize hgz : u0.heap.size = gz25 at hz25 pz25 ⊢
          clear hgz
          generalize u0.alloc (.cells #[.bool false, .slice none 0 0] 24) = u0z25 at *
          (try simp only [Act.put, List.setIfInBounds_toArray, List.set_cons_zero, List.set_cons_succ])
          refine wpAnyH_ready (rs := [3, 11]) (by kernel_rfl) (by simp) ?_
          refine AllReadyH.cons (o := ⟨_, _, _, _, _, _⟩) rfl (fun K hK => ?_) (AllReadyH.cons (o := ⟨_, _, _, _, _, _⟩) rfl (fun K hK => ?_) AllReadyH.nil)
          ·go_simp
           refine (refMul_any _ (i2.call hS).any (i22.call hS).any (by omega) (by omega)).mono ?_
           rintro e u1 ⟨t1, B1, m1, e1, rfl, j1, d1⟩
           replace hS := bthen hS d1
           (replace pz25 := pz25.call d1)
           first | (with_reducible refine hK.out _ _ hS (fun _ => ?_)) | (go_wp2_with fail; with_reducible refine hK.out _ _ hS (fun _ => ?_))
           clear hK K
           (try simp only [Act.put, List.setIfInBounds_toArray, List.set_cons_zero, List.set_cons_succ])
           refine wpAnyH_ready (rs := [4, 11]) (by kernel_rfl) (by simp) ?_
           refine AllReadyH.cons (o := ⟨_, _, _, _, _, _⟩) rfl (fun K hK => ?_) (AllReadyH.cons (o := ⟨_, _, _, _, _, _⟩) rfl (fun K hK => ?_) AllReadyH.nil)
           ·go_simp
            refine (refSub_any _ (i7.call hS).any j1.any (by omega) (Nat.le_trans (j1.len LP) (by omega))).mono ?_
            rintro e u2 ⟨t2, B2, m2, e2, rfl, j2, d2⟩
            replace hS := bthen hS d2
            (replace j1 := j1.call d2); (replace pz25 := pz25.call d2)
            first | (with_reducible refine hK.out _ _ hS (fun _ => ?_)) | (go_wp2_with fail; with_reducible refine hK.out _ _ hS (fun _ => ?_))
            clear hK K
            (try simp only [Act.put, List.setIfInBounds_toArray, List.set_cons_zero, List.set_cons_succ])
            refine wpAnyH_ready (rs := [6, 11]) (by kernel_rfl) (by simp) ?_
            refine AllReadyH.cons (o := ⟨_, _, _, _, _, _⟩) rfl (fun K hK => ?_) (AllReadyH.cons (o := ⟨_, _, _, _, _, _⟩) rfl (fun K hK => ?_) AllReadyH.nil)
            ·go_simp
             refine (refDivMod_ne _ j2.any (i3.call hS).any (Nat.le_trans (j2.len LD.out) (by omega)) (by omega) hy).mono ?_
             rintro e u3 ⟨t3, B3, m3, e3, t4, B4, m4, e4, rfl, j3, j4, d3⟩
             replace hS := bthen hS d3
             (replace j1 := j1.call d3); (replace j2 := j2.call d3); (replace pz25 := pz25.call d3)
             first | (with_reducible refine hK.out _ _ hS (fun _ => ?_)) | (go_wp2_with fail; with_reducible refine hK.out _ _ hS (fun _ => ?_))
             clear hK K
             (try simp only [Act.put, List.setIfInBounds_toArray, List.set_cons_zero, List.set_cons_succ])
             refine wpAnyH_take (i := 7) (oi := ⟨_, _, _, _, _, _⟩) (v := ?_) rfl (by kernel_rfl) (by kernel_rfl) (by kernel_rfl) (fun _ _ _ h => h) (Or.inl ⟨by rfl, ?_⟩) hS ?_
             rotate_left
             ·intro w' hS'; (first | (go_simp; done) | (go_simp; with_reducible rfl) | with_reducible rfl)
             (try simp only [Act.put, List.setIfInBounds_toArray, List.set_cons_zero, List.set_cons_succ])
             refine wpAnyH_take (i := 8) (oi := ⟨_, _, _, _, _, _⟩) (v := ?_) rfl (by kernel_rfl) (by kernel_rfl) (by kernel_rfl) (fun _ _ _ h => h) (Or.inl ⟨by rfl, ?_⟩) hS ?_
             rotate_left
             ·intro w' hS'; (first | (go_simp; done) | (go_simp; with_reducible rfl) | with_reducible rfl)
             (try simp only [Act.put, List.setIfInBounds_toArray, List.set_cons_zero, List.set_cons_succ])
             refine wpAnyH_take (i := 9) (oi := ⟨_, _, _, _, _, _⟩) (v := ?_) rfl (by kernel_rfl) (by kernel_rfl) (by kernel_rfl) (fun _ _ _ h => h) (Or.inl ⟨by rfl, ?_⟩) hS ?_
             rotate_left
             ·intro w' hS'; (first | (go_simp; done) | (go_simp; with_reducible rfl) | with_reducible rfl)
             (try simp only [Act.put, List.setIfInBounds_toArray, List.set_cons_zero, List.set_cons_succ])
             refine wpAnyH_take (i := 10) (oi := ⟨_, _, _, _, _, _⟩) (v := ?_) rfl (by kernel_rfl) (by kernel_rfl) (by kernel_rfl) (fun _ _ _ h => h) (Or.inl ⟨by rfl, ?_⟩) hS ?_
             rotate_left
             ·intro w' hS'; (first | (go_simp; done) | (go_simp; with_reducible rfl) | with_reducible rfl)
             (try simp only [Act.put, List.setIfInBounds_toArray, List.set_cons_zero, List.set_cons_succ])
             refine wpAnyH_ready (rs := [11]) (by kernel_rfl) (by simp) ?_
             refine AllReadyH.cons (o := ⟨_, _, _, _, _, _⟩) rfl (fun K hK => ?_) AllReadyH.nil
             go_simp
             have pz24 := Pr.new u3 false none 0 0
             have az := bone u3 (.cells #[.bool false, .slice none 0 0] 24)
             have hz24 := hS.size
             have lt25_24 := pz25.lt
             replace hS := bthen hS az
             (replace j1 := j1.call az); (replace j2 := j2.call az); (replace j3 := j3.call az); (replace j4 := j4.call az); (replace pz25 := pz25.call az)
             refine hK.out _ _ hS (fun _ => ?_)
             clear hK K az
             generalize hgz : u3.heap.size = gz24 at hz24 pz24 ⊢ lt25_24
             clear hgz
             generalize u3.alloc (.cells #[.bool false, .slice none 0 0] 24) = u3z24 at *
             (try simp only [Act.put, List.setIfInBounds_toArray, List.set_cons_zero, List.set_cons_succ])
             refine wpAnyH_ready (rs := [13]) (by kernel_rfl) (by simp) ?_
             refine AllReadyH.cons (o := ⟨_, _, _, _, _, _⟩) rfl (fun K hK => ?_) AllReadyH.nil
             obtain ⟨q0, q1, f0, f1, k0, k1⟩ := pz24.all (.bool t3) (.slice B3 m3 e3)
             go_simp
             replace hS := below_stored hS hz24 (.bool t3) (.slice B3 m3 e3)
             refine hK.out _ _ hS (fun _ => ?_)
             clear hK K q0 q1 f0 f1 k0 k1
             replace j1 := j1.stored pz24 (.bool t3) (.slice B3 m3 e3)
             replace j2 := j2.stored pz24 (.bool t3) (.slice B3 m3 e3)
             replace j3 := j3.stored pz24 (.bool t3) (.slice B3 m3 e3)
             replace j4 := j4.stored pz24 (.bool t3) (.slice B3 m3 e3)
             replace pz25 := pz25.far (g' := gz24) (by omega) (.bool t3) (.slice B3 m3 e3)
             replace pz24 := pz24.stored (s' := t3) (A' := B3) (n' := m3) (c' := e3)
             (try simp only [Act.put, List.setIfInBounds_toArray, List.set_cons_zero, List.set_cons_succ])
             refine wpAnyH_ready (rs := [14]) (by kernel_rfl) (by simp) ?_
             refine AllReadyH.cons (o := ⟨_, _, _, _, _, _⟩) rfl (fun K hK => ?_) AllReadyH.nil
             obtain ⟨q0, q1, f0, f1, k0, k1⟩ := pz25.all (.bool t4) (.slice B4 m4 e4)
             go_simp
             replace hS := below_stored hS hz25 (.bool t4) (.slice B4 m4 e4)
             refine hK.out _ _ hS (fun _ => ?_)
             clear hK K q0 q1 f0 f1 k0 k1
             replace j1 := j1.stored pz25 (.bool t4) (.slice B4 m4 e4)
             replace j2 := j2.stored pz25 (.bool t4) (.slice B4 m4 e4)
             replace j3 := j3.stored pz25 (.bool t4) (.slice B4 m4 e4)
             replace j4 := j4.stored pz25 (.bool t4) (.slice B4 m4 e4)
             replace pz24 := pz24.far (g' := gz25) (by omega) (.bool t4) (.slice B4 m4 e4)
             replace pz25 := pz25.stored (s' := t4) (A' := B4) (n' := m4) (c' := e4)
             (try simp only [Act.put, List.setIfInBounds_toArray, List.set_cons_zero, List.set_cons_succ])
             refine wpAnyH_take (i := 15) (oi := ⟨_, _, _, _, _, _⟩) (v := ?_) rfl (by kernel_rfl) (by kernel_rfl) (by kernel_rfl) (fun _ _ _ h => h) (Or.inl ⟨by rfl, ?_⟩) hS ?_
             rotate_left
             ·intro w' hS'; (first | (go_simp; done) | (go_simp; with_reducible rfl) | with_reducible rfl)
             (try simp only [Act.put, List.setIfInBounds_toArray, List.set_cons_zero, List.set_cons_succ])
             refine wpAnyH_done (by kernel_rfl) ?_ _
             go_wp2_with fail
             go_meet
             case rel => exact ⟨gz24, gz25, rfl, rfl, hz24, hz25, by omega, ⟨_, _, _, _, pz24, j3⟩, ⟨_, _, _, _, pz25, j4⟩, hS⟩
            ·go_simp
             have pz24 := Pr.new u2 false none 0 0
             have az := bone u2 (.cells #[.bool false, .slice none 0 0] 24)
             have hz24 := hS.size
             have lt25_24 := pz25.lt
             replace hS := bthen hS az
             (replace j1 := j1.call az); (replace j2 := j2.call az); (replace pz25 := pz25.call az)
             refine hK.out _ _ hS (fun _ => ?_)
             clear hK K az
             generalize hgz : u2.heap.size = gz24 at hz24 pz24 ⊢ lt25_24
             clear hgz
             generalize u2.alloc (.cells #[.bool false, .slice none 0 0] 24) = u2z24 at *
             (try simp only [Act.put, List.setIfInBounds_toArray, List.set_cons_zero, List.set_cons_succ])
             refine wpAnyH_ready (rs := [6]) (by kernel_rfl) (by simp) ?_
             refine AllReadyH.cons (o := ⟨_, _, _, _, _, _⟩) rfl (fun K hK => ?_) AllReadyH.nil
             go_simp
             refine (refDivMod_ne _ j2.any (i3.call hS).any (Nat.le_trans (j2.len LD.out) (by omega)) (by omega) hy).mono ?_
             rintro e u3 ⟨t3, B3, m3, e3, t4, B4, m4, e4, rfl, j3, j4, d3⟩
             replace hS := bthen hS d3
             (replace j1 := j1.call d3); (replace j2 := j2.call d3); (replace pz25 := pz25.call d3); (replace pz24 := pz24.call d3)
             first | (with_reducible refine hK.out _ _ hS (fun _ => ?_)) | (go_wp2_with fail; with_reducible refine hK.out _ _ hS (fun _ => ?_))
             clear hK K
             (try simp only [Act.put, List.setIfInBounds_toArray, List.set_cons_zero, List.set_cons_succ])
             refine wpAnyH_take (i := 7) (oi := ⟨_, _, _, _, _, _⟩) (v := ?_) rfl (by kernel_rfl) (by kernel_rfl) (by kernel_rfl) (fun _ _ _ h => h) (Or.inl ⟨by rfl, ?_⟩) hS ?_
             rotate_left
             ·intro w' hS'; (first | (go_simp; done) | (go_simp; with_reducible rfl) | with_reducible rfl)
             (try simp only [Act.put, List.setIfInBounds_toArray, List.set_cons_zero, List.set_cons_succ])
             refine wpAnyH_take (i := 8) (oi := ⟨_, _, _, _, _, _⟩) (v := ?_) rfl (by kernel_rfl) (by kernel_rfl) (by kernel_rfl) (fun _ _ _ h => h) (Or.inl ⟨by rfl, ?_⟩) hS ?_
             rotate_left
             ·intro w' hS'; (first | (go_simp; done) | (go_simp; with_reducible rfl) | with_reducible rfl)
             (try simp only [Act.put, List.setIfInBounds_toArray, List.set_cons_zero, List.set_cons_succ])
             refine wpAnyH_take (i := 9) (oi := ⟨_, _, _, _, _, _⟩) (v := ?_) rfl (by kernel_rfl) (by kernel_rfl) (by kernel_rfl) (fun _ _ _ h => h) (Or.inl ⟨by rfl, ?_⟩) hS ?_
             rotate_left
             ·intro w' hS'; (first | (go_simp; done) | (go_simp; with_reducible rfl) | with_reducible rfl)
             (try simp only [Act.put, List.setIfInBounds_toArray, List.set_cons_zero, List.set_cons_succ])
             refine wpAnyH_take (i := 10) (oi := ⟨_, _, _, _, _, _⟩) (v := ?_) rfl (by kernel_rfl) (by kernel_rfl) (by kernel_rfl) (fun _ _ _ h => h) (Or.inl ⟨by rfl, ?_⟩) hS ?_
             rotate_left
             ·intro w' hS'; (first | (go_simp; done) | (go_simp; with_reducible rfl) | with_reducible rfl)
             (try simp only [Act.put, List.setIfInBounds_toArray, List.set_cons_zero, List.set_cons_succ])
             refine wpAnyH_ready (rs := [13]) (by kernel_rfl) (by simp) ?_
             refine AllReadyH.cons (o := ⟨_, _, _, _, _, _⟩) rfl (fun K hK => ?_) AllReadyH.nil
             obtain ⟨q0, q1, f0, f1, k0, k1⟩ := pz24.all (.bool t3) (.slice B3 m3 e3)
             go_simp
             replace hS := below_stored hS hz24 (.bool t3) (.slice B3 m3 e3)
             refine hK.out _ _ hS (fun _ => ?_)
             clear hK K q0 q1 f0 f1 k0 k1
             replace j1 := j1.stored pz24 (.bool t3) (.slice B3 m3 e3)
             replace j2 := j2.stored pz24 (.bool t3) (.slice B3 m3 e3)
             replace j3 := j3.stored pz24 (.bool t3) (.slice B3 m3 e3)
             replace j4 := j4.stored pz24 (.bool t3) (.slice B3 m3 e3)
             replace pz25 := pz25.far (g' := gz24) (by omega) (.bool t3) (.slice B3 m3 e3)
             replace pz24 := pz24.stored (s' := t3) (A' := B3) (n' := m3) (c' := e3)
             (try simp only [Act.put, List.setIfInBounds_toArray, List.set_cons_zero, List.set_cons_succ])
             refine wpAnyH_ready (rs := [14]) (by kernel_rfl) (by simp) ?_
             refine AllReadyH.cons (o := ⟨_, _, _, _, _, _⟩) rfl (fun K hK => ?_) AllReadyH.nil
             obtain ⟨q0, q1, f0, f1, k0, k1⟩ := pz25.all (.bool t4) (.slice B4 m4 e4)
             go_simp
             replace hS := below_stored hS hz25 (.bool t4) (.slice B4 m4 e4)
             refine hK.out _ _ hS (fun _ => ?_)
             clear hK K q0 q1 f0 f1 k0 k1
             replace j1 := j1.stored pz25 (.bool t4) (.slice B4 m4 e4)
             replace j2 := j2.stored pz25 (.bool t4) (.slice B4 m4 e4)
             replace j3 := j3.stored pz25 (.bool t4) (.slice B4 m4 e4)
             replace j4 := j4.stored pz25 (.bool t4) (.slice B4 m4 e4)
             replace pz24 := pz24.far (g' := gz25) (by omega) (.bool t4) (.slice B4 m4 e4)
             replace pz25 := pz25.stored (s' := t4) (A' := B4) (n' := m4) (c' := e4)
             (try simp only [Act.put, List.setIfInBounds_toArray, List.set_cons_zero, List.set_cons_succ])
             refine wpAnyH_take (i := 15) (oi := ⟨_, _, _, _, _, _⟩) (v := ?_) rfl (by kernel_rfl) (by kernel_rfl) (by kernel_rfl) (fun _ _ _ h => h) (Or.inl ⟨by rfl, ?_⟩) hS ?_
             rotate_left
             ·intro w' hS'; (first | (go_simp; done) | (go_simp; with_reducible rfl) | with_reducible rfl)
             (try simp only [Act.put, List.setIfInBounds_toArray, List.set_cons_zero, List.set_cons_succ])
             refine wpAnyH_done (by kernel_rfl) ?_ _
             go_wp2_with fail
             go_meet
             case rel => exact ⟨gz24, gz25, rfl, rfl, hz24, hz25, by omega, ⟨_, _, _, _, pz24, j3⟩, ⟨_, _, _, _, pz25, j4⟩, hS⟩
           ·go_simp
            have pz24 := Pr.new u1 false none 0 0
            have az := bone u1 (.cells #[.bool false, .slice none 0 0] 24)
            have hz24 := hS.size
            have lt25_24 := pz25.lt
            replace hS := bthen hS az
            (replace j1 := j1.call az); (replace pz25 := pz25.call az)
            refine hK.out _ _ hS (fun _ => ?_)
            clear hK K az
            generalize hgz : u1.heap.size = gz24 at hz24 pz24 ⊢ lt25_24
            clear hgz
            generalize u1.alloc (.cells #[.bool false, .slice none 0 0] 24) = u1z24 at *
            (try simp only [Act.put, List.setIfInBounds_toArray, List.set_cons_zero, List.set_cons_succ])
            refine wpAnyH_ready (rs := [4]) (by kernel_rfl) (by simp) ?_
            refine AllReadyH.cons (o := ⟨_, _, _, _, _, _⟩) rfl (fun K hK => ?_) AllReadyH.nil
            go_simp
            refine (refSub_any _ (i7.call hS).any j1.any (by omega) (Nat.le_trans (j1.len LP) (by omega))).mono ?_
            rintro e u2 ⟨t2, B2, m2, e2, rfl, j2, d2⟩
            replace hS := bthen hS d2
            (replace j1 := j1.call d2); (replace pz25 := pz25.call d2); (replace pz24 := pz24.call d2)
            first | (with_reducible refine hK.out _ _ hS (fun _ => ?_)) | (go_wp2_with fail; with_reducible refine hK.out _ _ hS (fun _ => ?_))
            clear hK K
            (try simp only [Act.put, List.setIfInBounds_toArray, List.set_cons_zero, List.set_cons_succ])
            refine wpAnyH_ready (rs := [6]) (by kernel_rfl) (by simp) ?_
            refine AllReadyH.cons (o := ⟨_, _, _, _, _, _⟩) rfl (fun K hK => ?_) AllReadyH.nil
            go_simp
            refine (refDivMod_ne _ j2.any (i3.call hS).any (Nat.le_trans (j2.len LD.out) (by omega)) (by omega) hy).mono ?_
            rintro e u3 ⟨t3, B3, m3, e3, t4, B4, m4, e4, rfl, j3, j4, d3⟩
            replace hS := bthen hS d3
            (replace j1 := j1.call d3); (replace j2 := j2.call d3); (replace pz25 := pz25.call d3); (replace pz24 := pz24.call d3)
            first | (with_reducible refine hK.out _ _ hS (fun _ => ?_)) | (go_wp2_with fail; with_reducible refine hK.out _ _ hS (fun _ => ?_))
            clear hK K
            (try simp only [Act.put, List.setIfInBounds_toArray, List.set_cons_zero, List.set_cons_succ])
            refine wpAnyH_take (i := 7) (oi := ⟨_, _, _, _, _, _⟩) (v := ?_) rfl (by kernel_rfl) (by kernel_rfl) (by kernel_rfl) (fun _ _ _ h => h) (Or.inl ⟨by rfl, ?_⟩) hS ?_
            rotate_left
            ·intro w' hS'; (first | (go_simp; done) | (go_simp; with_reducible rfl) | with_reducible rfl)
            (try simp only [Act.put, List.setIfInBounds_toArray, List.set_cons_zero, List.set_cons_succ])
            refine wpAnyH_take (i := 8) (oi := ⟨_, _, _, _, _, _⟩) (v := ?_) rfl (by kernel_rfl) (by kernel_rfl) (by kernel_rfl) (fun _ _ _ h => h) (Or.inl ⟨by rfl, ?_⟩) hS ?_
            rotate_left
            ·intro w' hS'; (first | (go_simp; done) | (go_simp; with_reducible rfl) | with_reducible rfl)
            (try simp only [Act.put, List.setIfInBounds_toArray, List.set_cons_zero, List.set_cons_succ])
            refine wpAnyH_take (i := 9) (oi := ⟨_, _, _, _, _, _⟩) (v := ?_) rfl (by kernel_rfl) (by kernel_rfl) (by kernel_rfl) (fun _ _ _ h => h) (Or.inl ⟨by rfl, ?_⟩) hS ?_
            rotate_left
            ·intro w' hS'; (first | (go_simp; done) | (go_simp; with_reducible rfl) | with_reducible rfl)
            (try simp only [Act.put, List.setIfInBounds_toArray, List.set_cons_zero, List.set_cons_succ])
            refine wpAnyH_take (i := 10) (oi := ⟨_, _, _, _, _, _⟩) (v := ?_) rfl (by kernel_rfl) (by kernel_rfl) (by kernel_rfl) (fun _ _ _ h => h) (Or.inl ⟨by rfl, ?_⟩) hS ?_
            rotate_left
            ·intro w' hS'; (first | (go_simp; done) | (go_simp; with_reducible rfl) | with_reducible rfl)
            (try simp only [Act.put, List.setIfInBounds_toArray, List.set_cons_zero, List.set_cons_succ])
            refine wpAnyH_ready (rs := [13]) (by kernel_rfl) (by simp) ?_
            refine AllReadyH.cons (o := ⟨_, _, _, _, _, _⟩) rfl (fun K hK => ?_) AllReadyH.nil
            obtain ⟨q0, q1, f0, f1, k0, k1⟩ := pz24.all (.bool t3) (.slice B3 m3 e3)
            go_simp
            replace hS := below_stored hS hz24 (.bool t3) (.slice B3 m3 e3)
            refine hK.out _ _ hS (fun _ => ?_)
            clear hK K q0 q1 f0 f1 k0 k1
            replace j1 := j1.stored pz24 (.bool t3) (.slice B3 m3 e3)
            replace j2 := j2.stored pz24 (.bool t3) (.slice B3 m3 e3)
            replace j3 := j3.stored pz24 (.bool t3) (.slice B3 m3 e3)
            replace j4 := j4.stored pz24 (.bool t3) (.slice B3 m3 e3)
            replace pz25 := pz25.far (g' := gz24) (by omega) (.bool t3) (.slice B3 m3 e3)
            replace pz24 := pz24.stored (s' := t3) (A' := B3) (n' := m3) (c' := e3)
            (try simp only [Act.put, List.setIfInBounds_toArray, List.set_cons_zero, List.set_cons_succ])
            refine wpAnyH_ready (rs := [14]) (by kernel_rfl) (by simp) ?_
            refine AllReadyH.cons (o := ⟨_, _, _, _, _, _⟩) rfl (fun K hK => ?_) AllReadyH.nil
            obtain ⟨q0, q1, f0, f1, k0, k1⟩ := pz25.all (.bool t4) (.slice B4 m4 e4)
            go_simp
            replace hS := below_stored hS hz25 (.bool t4) (.slice B4 m4 e4)
            refine hK.out _ _ hS (fun _ => ?_)
            clear hK K q0 q1 f0 f1 k0 k1
            replace j1 := j1.stored pz25 (.bool t4) (.slice B4 m4 e4)
            replace j2 := j2.stored pz25 (.bool t4) (.slice B4 m4 e4)
            replace j3 := j3.stored pz25 (.bool t4) (.slice B4 m4 e4)
            replace j4 := j4.stored pz25 (.bool t4) (.slice B4 m4 e4)
            replace pz24 := pz24.far (g' := gz25) (by omega) (.bool t4) (.slice B4 m4 e4)
            replace pz25 := pz25.stored (s' := t4) (A' := B4) (n' := m4) (c' := e4)
            (try simp only [Act.put, List.setIfInBounds_toArray, List.set_cons_zero, List.set_cons_succ])
            refine wpAnyH_take (i := 15) (oi := ⟨_, _, _, _, _, _⟩) (v := ?_) rfl (by kernel_rfl) (by kernel_rfl) (by kernel_rfl) (fun _ _ _ h => h) (Or.inl ⟨by rfl, ?_⟩) hS ?_
            rotate_left
            ·intro w' hS'; (first | (go_simp; done) | (go_simp; with_reducible rfl) | with_reducible rfl)
            (try simp only [Act.put, List.setIfInBounds_toArray, List.set_cons_zero, List.set_cons_succ])
            refine wpAnyH_done (by kernel_rfl) ?_ _
            go_wp2_with fail
            go_meet
            case rel => exact ⟨gz24, gz25, rfl, rfl, hz24, hz25, by omega, ⟨_, _, _, _, pz24, j3⟩, ⟨_, _, _, _, pz25, j4⟩, hS⟩
          ·go_simp
           have pz24 := Pr.new u0z25 false none 0 0
           have az := bone u0z25 (.cells #[.bool false, .slice none 0 0] 24)
           have hz24 := hS.size
           have lt25_24 := pz25.lt
           replace hS := bthen hS az
           (replace pz25 := pz25.call az)
           refine hK.out _ _ hS (fun _ => ?_)
           clear hK K az
           generalize hgz : u0z25.heap.size = gz24 at hz24 pz24 ⊢ lt25_24
           clear hgz
           generalize u0z25.alloc (.cells #[.bool false, .slice none 0 0] 24) = u0z25z24 at *
           (try simp only [Act.put, List.setIfInBounds_toArray, List.set_cons_zero, List.set_cons_succ])
           refine wpAnyH_ready (rs := [3]) (by kernel_rfl) (by simp) ?_
           refine AllReadyH.cons (o := ⟨_, _, _, _, _, _⟩) rfl (fun K hK => ?_) AllReadyH.nil
           go_simp
           refine (refMul_any _ (i2.call hS).any (i22.call hS).any (by omega) (by omega)).mono ?_
           rintro e u1 ⟨t1, B1, m1, e1, rfl, j1, d1⟩
           replace hS := bthen hS d1
           (replace pz25 := pz25.call d1); (replace pz24 := pz24.call d1)
           first | (with_reducible refine hK.out _ _ hS (fun _ => ?_)) | (go_wp2_with fail; with_reducible refine hK.out _ _ hS (fun _ => ?_))
           clear hK K
           (try simp only [Act.put, List.setIfInBounds_toArray, List.set_cons_zero, List.set_cons_succ])
           refine wpAnyH_ready (rs := [4]) (by kernel_rfl) (by simp) ?_
           refine AllReadyH.cons (o := ⟨_, _, _, _, _, _⟩) rfl (fun K hK => ?_) AllReadyH.nil
           go_simp
           refine (refSub_any _ (i7.call hS).any j1.any (by omega) (Nat.le_trans (j1.len LP) (by omega))).mono ?_
           rintro e u2 ⟨t2, B2, m2, e2, rfl, j2, d2⟩
           replace hS := bthen hS d2
           (replace j1 := j1.call d2); (replace pz25 := pz25.call d2); (replace pz24 := pz24.call d2)
           first | (with_reducible refine hK.out _ _ hS (fun _ => ?_)) | (go_wp2_with fail; with_reducible refine hK.out _ _ hS (fun _ => ?_))
           clear hK K
           (try simp only [Act.put, List.setIfInBounds_toArray, List.set_cons_zero, List.set_cons_succ])
           refine wpAnyH_ready (rs := [6]) (by kernel_rfl) (by simp) ?_
           refine AllReadyH.cons (o := ⟨_, _, _, _, _, _⟩) rfl (fun K hK => ?_) AllReadyH.nil
           go_simp
           refine (refDivMod_ne _ j2.any (i3.call hS).any (Nat.le_trans (j2.len LD.out) (by omega)) (by omega) hy).mono ?_
           rintro e u3 ⟨t3, B3, m3, e3, t4, B4, m4, e4, rfl, j3, j4, d3⟩
           replace hS := bthen hS d3
           (replace j1 := j1.call d3); (replace j2 := j2.call d3); (replace pz25 := pz25.call d3); (replace pz24 := pz24.call d3)
           first | (with_reducible refine hK.out _ _ hS (fun _ => ?_)) | (go_wp2_with fail; with_reducible refine hK.out _ _ hS (fun _ => ?_))
           clear hK K
           (try simp only [Act.put, List.setIfInBounds_toArray, List.set_cons_zero, List.set_cons_succ])
           refine wpAnyH_take (i := 7) (oi := ⟨_, _, _, _, _, _⟩) (v := ?_) rfl (by kernel_rfl) (by kernel_rfl) (by kernel_rfl) (fun _ _ _ h => h) (Or.inl ⟨by rfl, ?_⟩) hS ?_
           rotate_left
           ·intro w' hS'; (first | (go_simp; done) | (go_simp; with_reducible rfl) | with_reducible rfl)
           (try simp only [Act.put, List.setIfInBounds_toArray, List.set_cons_zero, List.set_cons_succ])
           refine wpAnyH_take (i := 8) (oi := ⟨_, _, _, _, _, _⟩) (v := ?_) rfl (by kernel_rfl) (by kernel_rfl) (by kernel_rfl) (fun _ _ _ h => h) (Or.inl ⟨by rfl, ?_⟩) hS ?_
           rotate_left
           ·intro w' hS'; (first | (go_simp; done) | (go_simp; with_reducible rfl) | with_reducible rfl)
           (try simp only [Act.put, List.setIfInBounds_toArray, List.set_cons_zero, List.set_cons_succ])
           refine wpAnyH_take (i := 9) (oi := ⟨_, _, _, _, _, _⟩) (v := ?_) rfl (by kernel_rfl) (by kernel_rfl) (by kernel_rfl) (fun _ _ _ h => h) (Or.inl ⟨by rfl, ?_⟩) hS ?_
           rotate_left
           ·intro w' hS'; (first | (go_simp; done) | (go_simp; with_reducible rfl) | with_reducible rfl)
           (try simp only [Act.put, List.setIfInBounds_toArray, List.set_cons_zero, List.set_cons_succ])
           refine wpAnyH_take (i := 10) (oi := ⟨_, _, _, _, _, _⟩) (v := ?_) rfl (by kernel_rfl) (by kernel_rfl) (by kernel_rfl) (fun _ _ _ h => h) (Or.inl ⟨by rfl, ?_⟩) hS ?_
           rotate_left
           ·intro w' hS'; (first | (go_simp; done) | (go_simp; with_reducible rfl) | with_reducible rfl)
           (try simp only [Act.put, List.setIfInBounds_toArray, List.set_cons_zero, List.set_cons_succ])
           refine wpAnyH_ready (rs := [13]) (by kernel_rfl) (by simp) ?_
           refine AllReadyH.cons (o := ⟨_, _, _, _, _, _⟩) rfl (fun K hK => ?_) AllReadyH.nil
           obtain ⟨q0, q1, f0, f1, k0, k1⟩ := pz24.all (.bool t3) (.slice B3 m3 e3)
           go_simp
           replace hS := below_stored hS hz24 (.bool t3) (.slice B3 m3 e3)
           refine hK.out _ _ hS (fun _ => ?_)
           clear hK K q0 q1 f0 f1 k0 k1
           replace j1 := j1.stored pz24 (.bool t3) (.slice B3 m3 e3)
           replace j2 := j2.stored pz24 (.bool t3) (.slice B3 m3 e3)
           replace j3 := j3.stored pz24 (.bool t3) (.slice B3 m3 e3)
           replace j4 := j4.stored pz24 (.bool t3) (.slice B3 m3 e3)
           replace pz25 := pz25.far (g' := gz24) (by omega) (.bool t3) (.slice B3 m3 e3)
           replace pz24 := pz24.stored (s' := t3) (A' := B3) (n' := m3) (c' := e3)
           (try simp only [Act.put, List.setIfInBounds_toArray, List.set_cons_zero, List.set_cons_succ])
           refine wpAnyH_ready (rs := [14]) (by kernel_rfl) (by simp) ?_
           refine AllReadyH.cons (o := ⟨_, _, _, _, _, _⟩) rfl (fun K hK => ?_) AllReadyH.nil
           obtain ⟨q0, q1, f0, f1, k0, k1⟩ := pz25.all (.bool t4) (.slice B4 m4 e4)
           go_simp
           replace hS := below_stored hS hz25 (.bool t4) (.slice B4 m4 e4)
           refine hK.out _ _ hS (fun _ => ?_)
           clear hK K q0 q1 f0 f1 k0 k1
           replace j1 := j1.stored pz25 (.bool t4) (.slice B4 m4 e4)
           replace j2 := j2.stored pz25 (.bool t4) (.slice B4 m4 e4)
           replace j3 := j3.stored pz25 (.bool t4) (.slice B4 m4 e4)
           replace j4 := j4.stored pz25 (.bool t4) (.slice B4 m4 e4)
           replace pz24 := pz24.far (g' := gz25) (by omega) (.bool t4) (.slice B4 m4 e4)
           replace pz25 := pz25.stored (s' := t4) (A' := B4) (n' := m4) (c' := e4)
           (try simp only [Act.put, List.setIfInBounds_toArray, List.set_cons_zero, List.set_cons_succ])
           refine wpAnyH_take (i := 15) (oi := ⟨_, _, _, _, _, _⟩) (v := ?_) rfl (by kernel_rfl) (by kernel_rfl) (by kernel_rfl) (fun _ _ _ h => h) (Or.inl ⟨by rfl, ?_⟩) hS ?_
           rotate_left
           ·intro w' hS'; (first | (go_simp; done) | (go_simp; with_reducible rfl) | with_reducible rfl)
           (try simp only [Act.put, List.setIfInBounds_toArray, List.set_cons_zero, List.set_cons_succ])
           refine wpAnyH_done (by kernel_rfl) ?_ _
           go_wp2_with fail
           go_meet
           case rel => exact ⟨gz24, gz25, rfl, rfl, hz24, hz25, by omega, ⟨_, _, _, _, pz24, j3⟩, ⟨_, _, _, _, pz25, j4⟩, hS⟩
       case rest =>
        obtain ⟨g24, g25, rfl, rfl, ne15_0, ne15_1, ne15_2, HB⟩ := hcut
        obtain ⟨⟨s24, A24, n24, c24, p24, i24⟩, ⟨s25, A25, n25, c25, p25, i25⟩, dB⟩ := HB.out
        obtain ⟨Xh4, rfl⟩ : ∃ X : World, X = wc := ⟨_, rfl⟩
        have lt22_24 : g21 + 1 < g24 := by have := p22.lt; omega
        have lt22_25 : g21 + 1 < g25 := by have := p22.lt; omega
        (replace p2 := p2.call dB); (replace p3 := p3.call dB); (replace p4 := p4.call dB); (replace p5 := p5.call dB); (replace p6 := p6.call dB); (replace p7 := p7.call dB); (replace p22 := p22.call dB); (replace i2 := i2.call dB); (replace i3 := i3.call dB); (replace i7 := i7.call dB); (replace i22 := i22.call dB)
        replace hW := bthen hW dB
        clear HB dB ne15_0 ne15_1
        go_upto_region 16 with (fail)
        rename_i K16 hK16
        clear p25 i25 p2 i2 p3 i3
        have d0 := bdrew Xh4
        (replace i7 := i7.call d0); (replace i22 := i22.call d0); (replace i24 := i24.call d0); (replace p7 := p7.call d0); (replace p22 := p22.call d0); (replace p24 := p24.call d0); (replace p4 := p4.call d0); (replace p5 := p5.call d0); (replace p6 := p6.call d0)
        replace hW := bthen hW d0
        clear d0
        refine wp_region_held_drew (S := fun w' => Below w.heap.size w w' ∧ Pr w' (g7) s7 A7 n7 c7 ∧ Pr w' (g21 + 1) s22 A22 n22 c22 ∧ Pr w' (g24) s24 A24 n24 c24) (by kernel_rfl) ⟨hW, p7, p22, p24⟩ (fun _ => ?_)
        generalize Xh4.drew = u0 at *
        refine wpAnyH_take (i := 0) (oi := ⟨_, _, _, _, _, _⟩) (v := ?_) rfl (by kernel_rfl) (by kernel_rfl) (by kernel_rfl) (fun _ _ _ h => h) (Or.inl ⟨by rfl, ?_⟩) ⟨hW, p7, p22, p24⟩ ?_
        rotate_left
        ·intro w' hS'; obtain ⟨_, q_p7, q_p22, q_p24⟩ := hS'; have c0 := q_p7.cell0; have c1 := q_p7.cell1; (first | (go_simp; done) | (go_simp; with_reducible rfl) | with_reducible rfl)
        (try simp only [Act.put, List.setIfInBounds_toArray, List.set_cons_zero, List.set_cons_succ])
        refine wpAnyH_take (i := 1) (oi := ⟨_, _, _, _, _, _⟩) (v := ?_) rfl (by kernel_rfl) (by kernel_rfl) (by kernel_rfl) (fun _ _ _ h => h) (Or.inl ⟨by rfl, ?_⟩) ⟨hW, p7, p22, p24⟩ ?_
        rotate_left
        ·intro w' hS'; obtain ⟨_, q_p7, q_p22, q_p24⟩ := hS'; have c0 := q_p22.cell0; have c1 := q_p22.cell1; (first | (go_simp; done) | (go_simp; with_reducible rfl) | with_reducible rfl)
        (try simp only [Act.put, List.setIfInBounds_toArray, List.set_cons_zero, List.set_cons_succ])
        refine wpAnyH_take (i := 2) (oi := ⟨_, _, _, _, _, _⟩) (v := ?_) rfl (by kernel_rfl) (by kernel_rfl) (by kernel_rfl) (fun _ _ _ h => h) (Or.inl ⟨by rfl, ?_⟩) ⟨hW, p7, p22, p24⟩ ?_
        rotate_left
        ·intro w' hS'; obtain ⟨_, q_p7, q_p22, q_p24⟩ := hS'; have c0 := q_p24.cell0; have c1 := q_p24.cell1; (first | (go_simp; done) | (go_simp; with_reducible rfl) | with_reducible rfl)
        (try simp only [Act.put, List.setIfInBounds_toArray, List.set_cons_zero, List.set_cons_succ])
        refine wpAnyH_ready (rs := [3]) (by kernel_rfl) (by simp) ?_
        refine AllReadyH.cons (o := ⟨_, _, _, _, _, _⟩) rfl (fun K hK => ?_) AllReadyH.nil
        obtain ⟨q0, q1, f0, f1, k0, k1⟩ := p4.all (.bool s7) (.slice A7 n7 c7)
        go_simp
        clear q0 q1 f0 f1 k0 k1
        replace hW := below_stored hW (g := w.heap.size + 1 + 1) (by omega) (.bool s7) (.slice A7 n7 c7)
        replace i7 := i7.stored p4 (.bool s7) (.slice A7 n7 c7)
        replace i22 := i22.stored p4 (.bool s7) (.slice A7 n7 c7)
        replace i24 := i24.stored p4 (.bool s7) (.slice A7 n7 c7)
        replace p7 := p7.far (g' := w.heap.size + 1 + 1) (by omega) (.bool s7) (.slice A7 n7 c7)
        replace p22 := p22.far (g' := w.heap.size + 1 + 1) (by omega) (.bool s7) (.slice A7 n7 c7)
        replace p24 := p24.far (g' := w.heap.size + 1 + 1) (by omega) (.bool s7) (.slice A7 n7 c7)
        replace p5 := p5.far (g' := w.heap.size + 1 + 1) (by omega) (.bool s7) (.slice A7 n7 c7)
        replace p6 := p6.far (g' := w.heap.size + 1 + 1) (by omega) (.bool s7) (.slice A7 n7 c7)
        replace p4 := p4.stored (s' := s7) (A' := A7) (n' := n7) (c' := c7)
        generalize (u0.setCell ⟨w.heap.size + 1 + 1, 0, none⟩ (.bool s7)).setCell ⟨w.heap.size + 1 + 1, 1, none⟩ (.slice A7 n7 c7) = su04 at *
        refine hK.out _ _ ⟨hW, p7, p22, p24⟩ (fun _ => ?_)
        clear hK K
        (try simp only [Act.put, List.setIfInBounds_toArray, List.set_cons_zero, List.set_cons_succ])
        refine wpAnyH_ready (rs := [4]) (by kernel_rfl) (by simp) ?_
        refine AllReadyH.cons (o := ⟨_, _, _, _, _, _⟩) rfl (fun K hK => ?_) AllReadyH.nil
        obtain ⟨q0, q1, f0, f1, k0, k1⟩ := p5.all (.bool s22) (.slice A22 n22 c22)
        go_simp
        clear q0 q1 f0 f1 k0 k1
        replace hW := below_stored hW (g := w.heap.size + 1 + 1 + 1) (by omega) (.bool s22) (.slice A22 n22 c22)
        replace i7 := i7.stored p5 (.bool s22) (.slice A22 n22 c22)
        replace i22 := i22.stored p5 (.bool s22) (.slice A22 n22 c22)
        replace i24 := i24.stored p5 (.bool s22) (.slice A22 n22 c22)
        replace p7 := p7.far (g' := w.heap.size + 1 + 1 + 1) (by omega) (.bool s22) (.slice A22 n22 c22)
        replace p22 := p22.far (g' := w.heap.size + 1 + 1 + 1) (by omega) (.bool s22) (.slice A22 n22 c22)
        replace p24 := p24.far (g' := w.heap.size + 1 + 1 + 1) (by omega) (.bool s22) (.slice A22 n22 c22)
        replace p4 := p4.far (g' := w.heap.size + 1 + 1 + 1) (by omega) (.bool s22) (.slice A22 n22 c22)
        replace p6 := p6.far (g' := w.heap.size + 1 + 1 + 1) (by omega) (.bool s22) (.slice A22 n22 c22)
        replace p5 := p5.stored (s' := s22) (A' := A22) (n' := n22) (c' := c22)
        generalize (su04.setCell ⟨w.heap.size + 1 + 1 + 1, 0, none⟩ (.bool s22)).setCell ⟨w.heap.size + 1 + 1 + 1, 1, none⟩ (.slice A22 n22 c22) = ssu045 at *
        refine hK.out _ _ ⟨hW, p7, p22, p24⟩ (fun _ => ?_)
        clear hK K
        (try simp only [Act.put, List.setIfInBounds_toArray, List.set_cons_zero, List.set_cons_succ])
        refine wpAnyH_ready (rs := [5]) (by kernel_rfl) (by simp) ?_
        refine AllReadyH.cons (o := ⟨_, _, _, _, _, _⟩) rfl (fun K hK => ?_) AllReadyH.nil
        obtain ⟨q0, q1, f0, f1, k0, k1⟩ := p6.all (.bool s24) (.slice A24 n24 c24)
        go_simp
        clear q0 q1 f0 f1 k0 k1
        replace hW := below_stored hW (g := w.heap.size + 1 + 1 + 1 + 1) (by omega) (.bool s24) (.slice A24 n24 c24)
        replace i7 := i7.stored p6 (.bool s24) (.slice A24 n24 c24)
        replace i22 := i22.stored p6 (.bool s24) (.slice A24 n24 c24)
        replace i24 := i24.stored p6 (.bool s24) (.slice A24 n24 c24)
        replace p7 := p7.far (g' := w.heap.size + 1 + 1 + 1 + 1) (by omega) (.bool s24) (.slice A24 n24 c24)
        replace p22 := p22.far (g' := w.heap.size + 1 + 1 + 1 + 1) (by omega) (.bool s24) (.slice A24 n24 c24)
        replace p24 := p24.far (g' := w.heap.size + 1 + 1 + 1 + 1) (by omega) (.bool s24) (.slice A24 n24 c24)
        replace p4 := p4.far (g' := w.heap.size + 1 + 1 + 1 + 1) (by omega) (.bool s24) (.slice A24 n24 c24)
        replace p5 := p5.far (g' := w.heap.size + 1 + 1 + 1 + 1) (by omega) (.bool s24) (.slice A24 n24 c24)
        replace p6 := p6.stored (s' := s24) (A' := A24) (n' := n24) (c' := c24)
        generalize (ssu045.setCell ⟨w.heap.size + 1 + 1 + 1 + 1, 0, none⟩ (.bool s24)).setCell ⟨w.heap.size + 1 + 1 + 1 + 1, 1, none⟩ (.slice A24 n24 c24) = sssu0456 at *
        refine hK.out _ _ ⟨hW, p7, p22, p24⟩ (fun _ => ?_)
        clear hK K
        (try simp only [Act.put, List.setIfInBounds_toArray, List.set_cons_zero, List.set_cons_succ])
        refine wpAnyH_done (by kernel_rfl) ?_ _
        obtain ⟨x0, x1⟩ := p4.cells1
        obtain ⟨x2, x3⟩ := p5.cells1
        obtain ⟨x4, x5⟩ := p6.cells1
        show K16 _ _
        refine hK16 _ _ (wp_ret ?_)
        refine bodyPost_ret (v := .tuple #[.agg #[.bool s7, .slice A7 n7 c7], .agg #[.bool s22, .slice A22 n22 c22], .agg #[.bool s24, .slice A24 n24 c24]]) (by simp [results, Tryd.results47, go_sem, x0, x1, x2, x3, x4, x5]) rfl ?_
        exact ⟨_, _, _, _, _, _, _, _, _, _, _, _, rfl, by rw [HGE.out]; exact i7, by rw [HU.out]; exact i22, by rw [HV.out]; exact i24, hW⟩
      ·have hn15 : n15 ≠ 0 := fun h => h0 (by have := hz15.1 h; omega)
       have hgt : decide ((0 : Int) < (n15 : Int)) = true := by simp; omega
       have hgt' : 0 < n15 := by omega
       have HS := Lib.hid (HP.out.step h0 hrm)
       have hz1 : (r1 : Int) ≠ 0 := by omega
       clear hz15
       go_upto_region 11 with (fail)
       clear o150 o151
       obtain ⟨o14_0, o14_1⟩ := p14.cells1
       obtain ⟨o15_0, o15_1⟩ := p15.cells1
       go_wp2_with fail
       refine (refDivMod_ne _ i14.any i15.any (by omega) (by omega) hz1).mono ?_
       rintro e Xh1 ⟨s18, A18, n18, c18, s19, A19, n19, c19, rfl, i18, i19, dXh1⟩
       (replace p14 := p14.call dXh1); (replace p15 := p15.call dXh1); (replace p16 := p16.call dXh1); (replace p17 := p17.call dXh1); (replace i14 := i14.call dXh1); (replace i15 := i15.call dXh1); (replace i16 := i16.call dXh1); (replace i17 := i17.call dXh1); (replace hx := hx.call dXh1)
       replace hW := bthen hW dXh1
       clear o14_0 o14_1 o15_0 o15_1
       rw [nat_fdiv] at i18
       rw [nat_fmod] at i19
       have lt14_18 := p14.lt
       have lt15_18 := p15.lt
       have lt16_18 := p16.lt
       have lt17_18 := p17.lt
       obtain ⟨Xh2a, hXh2a⟩ : ∃ Y, Y = Xh1.alloc (.cells #[.bool s18, .slice A18 n18 c18] 24) := ⟨_, rfl⟩
       have dbXh2a : Below Xh1.heap.size Xh1 Xh2a := by rw [hXh2a]; exact bone _ _
       have eXh2a : Xh1.heap.size = Xh1.heap.size := by first | rfl | (rw [rfl]; simp)
       have p18 : Pr Xh2a (Xh1.heap.size) s18 A18 n18 c18 := by rw [← eXh2a, hXh2a]; exact Pr.new _ _ _ _ _
       (replace p14 := p14.call dbXh2a); (replace p15 := p15.call dbXh2a); (replace p16 := p16.call dbXh2a); (replace p17 := p17.call dbXh2a); (replace i14 := i14.call dbXh2a); (replace i15 := i15.call dbXh2a); (replace i16 := i16.call dbXh2a); (replace i17 := i17.call dbXh2a); (replace hx := hx.call dbXh2a); (replace i18 := i18.call dbXh2a); (replace i19 := i19.call dbXh2a)
       replace hW := bthen hW dbXh2a
       obtain ⟨Xh2, hXh2⟩ : ∃ Y, Y = Xh2a.alloc (.cells #[.bool s19, .slice A19 n19 c19] 24) := ⟨_, rfl⟩
       have dbXh2 : Below Xh2a.heap.size Xh2a Xh2 := by rw [hXh2]; exact bone _ _
       have eXh2 : Xh2a.heap.size = Xh1.heap.size + 1 := by first | rfl | (rw [hXh2a]; simp)
       have p19 : Pr Xh2 (Xh1.heap.size + 1) s19 A19 n19 c19 := by rw [← eXh2, hXh2]; exact Pr.new _ _ _ _ _
       (replace p14 := p14.call dbXh2); (replace p15 := p15.call dbXh2); (replace p16 := p16.call dbXh2); (replace p17 := p17.call dbXh2); (replace i14 := i14.call dbXh2); (replace i15 := i15.call dbXh2); (replace i16 := i16.call dbXh2); (replace i17 := i17.call dbXh2); (replace hx := hx.call dbXh2); (replace p18 := p18.call dbXh2); (replace i18 := i18.call dbXh2); (replace i19 := i19.call dbXh2)
       replace hW := bthen hW dbXh2
       go_upto_region 12 with (fail)
       rw [← hXh2a, ← hXh2]
       clear eXh2 hXh2 dbXh2 eXh2a hXh2a dbXh2a
       generalize Xh1.heap.size = g18 at *
       go_upto_region 12 with (fail)
       go_cut [] (fun wz => wz = ((((Xh2.drew).setCell ⟨g14, 0, none⟩ (.bool s15)).setCell ⟨g14, 1, none⟩ (.slice A15 n15 c15)).setCell ⟨g15, 0, none⟩ (.bool s19)).setCell ⟨g15, 1, none⟩ (.slice A19 n19 c19))
       case first =>
        as_aux_lemma =>
         have hS := hW
         have d0 := bdrew Xh2
         (replace p14 := p14.call d0); (replace p15 := p15.call d0); (replace p19 := p19.call d0)
         replace hS := bthen hS d0
         clear d0
         refine wp_region_held_drew (S := fun _ => True) (by kernel_rfl) trivial (fun _ => ?_)
         generalize Xh2.drew = u0 at *
         refine wpAnyH_ready (rs := [0, 1]) (by kernel_rfl) (by simp) ?_
         refine AllReadyH.cons (o := ⟨_, _, _, _, _, _⟩) rfl (fun K hK => ?_) (AllReadyH.cons (o := ⟨_, _, _, _, _, _⟩) rfl (fun K hK => ?_) AllReadyH.nil)
         ·have c0 := p15.cell0
          have c1 := p15.cell1
          go_simp
          refine hK.out _ _ trivial (fun _ => ?_)
          clear hK K c0 c1
          (try simp only [Act.put, List.setIfInBounds_toArray, List.set_cons_zero, List.set_cons_succ])
          refine wpAnyH_ready (rs := [1, 2]) (by kernel_rfl) (by simp) ?_
          refine AllReadyH.cons (o := ⟨_, _, _, _, _, _⟩) rfl (fun K hK => ?_) (AllReadyH.cons (o := ⟨_, _, _, _, _, _⟩) rfl (fun K hK => ?_) AllReadyH.nil)
          ·have c0 := p19.cell0
           have c1 := p19.cell1
           go_simp
           refine hK.out _ _ trivial (fun _ => ?_)
           clear hK K c0 c1
           (try simp only [Act.put, List.setIfInBounds_toArray, List.set_cons_zero, List.set_cons_succ])
           refine wpAnyH_ready (rs := [2]) (by kernel_rfl) (by simp) ?_
           refine AllReadyH.cons (o := ⟨_, _, _, _, _, _⟩) rfl (fun K hK => ?_) AllReadyH.nil
           obtain ⟨q0, q1, f0, f1, k0, k1⟩ := p14.all (.bool s15) (.slice A15 n15 c15)
           go_simp
           refine hK.out _ _ trivial (fun _ => ?_)
           clear hK K q0 q1 f0 f1 k0 k1
           replace hS := below_stored hS (g := g14) (by omega) (.bool s15) (.slice A15 n15 c15)
           replace p15 := p15.far (g' := g14) (by omega) (.bool s15) (.slice A15 n15 c15)
           replace p19 := p19.far (g' := g14) (by omega) (.bool s15) (.slice A15 n15 c15)
           replace p14 := p14.stored (s' := s15) (A' := A15) (n' := n15) (c' := c15)
           (try simp only [Act.put, List.setIfInBounds_toArray, List.set_cons_zero, List.set_cons_succ])
           refine wpAnyH_ready (rs := [3]) (by kernel_rfl) (by simp) ?_
           refine AllReadyH.cons (o := ⟨_, _, _, _, _, _⟩) rfl (fun K hK => ?_) AllReadyH.nil
           obtain ⟨q0, q1, f0, f1, k0, k1⟩ := p15.all (.bool s19) (.slice A19 n19 c19)
           go_simp
           refine hK.out _ _ trivial (fun _ => ?_)
           clear hK K q0 q1 f0 f1 k0 k1
           replace hS := below_stored hS (g := g15) (by omega) (.bool s19) (.slice A19 n19 c19)
           replace p14 := p14.far (g' := g15) (by omega) (.bool s19) (.slice A19 n19 c19)
           replace p19 := p19.far (g' := g15) (by omega) (.bool s19) (.slice A19 n19 c19)
           replace p15 := p15.stored (s' := s19) (A' := A19) (n' := n19) (c' := c19)
           (try simp only [Act.put, List.setIfInBounds_toArray, List.set_cons_zero, List.set_cons_succ])
           refine wpAnyH_done (by kernel_rfl) ?_ _
           go_wp2_with fail
           go_meet
           case rel => rfl
          ·obtain ⟨q0, q1, f0, f1, k0, k1⟩ := p14.all (.bool s15) (.slice A15 n15 c15)
           go_simp
           refine hK.out _ _ trivial (fun _ => ?_)
           clear hK K q0 q1 f0 f1 k0 k1
           replace hS := below_stored hS (g := g14) (by omega) (.bool s15) (.slice A15 n15 c15)
           replace p15 := p15.far (g' := g14) (by omega) (.bool s15) (.slice A15 n15 c15)
           replace p19 := p19.far (g' := g14) (by omega) (.bool s15) (.slice A15 n15 c15)
           replace p14 := p14.stored (s' := s15) (A' := A15) (n' := n15) (c' := c15)
           (try simp only [Act.put, List.setIfInBounds_toArray, List.set_cons_zero, List.set_cons_succ])
           refine wpAnyH_ready (rs := [1]) (by kernel_rfl) (by simp) ?_
           refine AllReadyH.cons (o := ⟨_, _, _, _, _, _⟩) rfl (fun K hK => ?_) AllReadyH.nil
           have c0 := p19.cell0
           have c1 := p19.cell1
           go_simp
           refine hK.out _ _ trivial (fun _ => ?_)
           clear hK K c0 c1
           (try simp only [Act.put, List.setIfInBounds_toArray, List.set_cons_zero, List.set_cons_succ])
           refine wpAnyH_ready (rs := [3]) (by kernel_rfl) (by simp) ?_
           refine AllReadyH.cons (o := ⟨_, _, _, _, _, _⟩) rfl (fun K hK => ?_) AllReadyH.nil
           obtain ⟨q0, q1, f0, f1, k0, k1⟩ := p15.all (.bool s19) (.slice A19 n19 c19)
           go_simp
           refine hK.out _ _ trivial (fun _ => ?_)
           clear hK K q0 q1 f0 f1 k0 k1
           replace hS := below_stored hS (g := g15) (by omega) (.bool s19) (.slice A19 n19 c19)
           replace p14 := p14.far (g' := g15) (by omega) (.bool s19) (.slice A19 n19 c19)
           replace p19 := p19.far (g' := g15) (by omega) (.bool s19) (.slice A19 n19 c19)
           replace p15 := p15.stored (s' := s19) (A' := A19) (n' := n19) (c' := c19)
           (try simp only [Act.put, List.setIfInBounds_toArray, List.set_cons_zero, List.set_cons_succ])
           refine wpAnyH_done (by kernel_rfl) ?_ _
           go_wp2_with fail
           go_meet
           case rel => rfl
         ·have c0 := p19.cell0
          have c1 := p19.cell1
          go_simp
          refine hK.out _ _ trivial (fun _ => ?_)
          clear hK K c0 c1
          (try simp only [Act.put, List.setIfInBounds_toArray, List.set_cons_zero, List.set_cons_succ])
          refine wpAnyH_ready (rs := [0]) (by kernel_rfl) (by simp) ?_
          refine AllReadyH.cons (o := ⟨_, _, _, _, _, _⟩) rfl (fun K hK => ?_) AllReadyH.nil
          have c0 := p15.cell0
          have c1 := p15.cell1
          go_simp
          refine hK.out _ _ trivial (fun _ => ?_)
          clear hK K c0 c1
          (try simp only [Act.put, List.setIfInBounds_toArray, List.set_cons_zero, List.set_cons_succ])
          refine wpAnyH_ready (rs := [2]) (by kernel_rfl) (by simp) ?_
          refine AllReadyH.cons (o := ⟨_, _, _, _, _, _⟩) rfl (fun K hK => ?_) AllReadyH.nil
          obtain ⟨q0, q1, f0, f1, k0, k1⟩ := p14.all (.bool s15) (.slice A15 n15 c15)
          go_simp
          refine hK.out _ _ trivial (fun _ => ?_)
          clear hK K q0 q1 f0 f1 k0 k1
          replace hS := below_stored hS (g := g14) (by omega) (.bool s15) (.slice A15 n15 c15)
          replace p15 := p15.far (g' := g14) (by omega) (.bool s15) (.slice A15 n15 c15)
          replace p19 := p19.far (g' := g14) (by omega) (.bool s15) (.slice A15 n15 c15)
          replace p14 := p14.stored (s' := s15) (A' := A15) (n' := n15) (c' := c15)
          (try simp only [Act.put, List.setIfInBounds_toArray, List.set_cons_zero, List.set_cons_succ])
          refine wpAnyH_ready (rs := [3]) (by kernel_rfl) (by simp) ?_
          refine AllReadyH.cons (o := ⟨_, _, _, _, _, _⟩) rfl (fun K hK => ?_) AllReadyH.nil
          obtain ⟨q0, q1, f0, f1, k0, k1⟩ := p15.all (.bool s19) (.slice A19 n19 c19)
          go_simp
          refine hK.out _ _ trivial (fun _ => ?_)
          clear hK K q0 q1 f0 f1 k0 k1
          replace hS := below_stored hS (g := g15) (by omega) (.bool s19) (.slice A19 n19 c19)
          replace p14 := p14.far (g' := g15) (by omega) (.bool s19) (.slice A19 n19 c19)
          replace p19 := p19.far (g' := g15) (by omega) (.bool s19) (.slice A19 n19 c19)
          replace p15 := p15.stored (s' := s19) (A' := A19) (n' := n19) (c' := c19)
          (try simp only [Act.put, List.setIfInBounds_toArray, List.set_cons_zero, List.set_cons_succ])
          refine wpAnyH_done (by kernel_rfl) ?_ _
          go_wp2_with fail
          go_meet
          case rel => rfl
       case rest =>
        have d0 := bdrew Xh2
        (replace p14 := p14.call d0); (replace p15 := p15.call d0); (replace p16 := p16.call d0); (replace p17 := p17.call d0); (replace p18 := p18.call d0); (replace p19 := p19.call d0); (replace i14 := i14.call d0); (replace i15 := i15.call d0); (replace i16 := i16.call d0); (replace i17 := i17.call d0); (replace i18 := i18.call d0); (replace i19 := i19.call d0); (replace hx := hx.call d0)
        replace hW := bthen hW d0
        replace i14 := i14.stored p14 (.bool s15) (.slice A15 n15 c15)
        replace i15 := i15.stored p14 (.bool s15) (.slice A15 n15 c15)
        replace i16 := i16.stored p14 (.bool s15) (.slice A15 n15 c15)
        replace i17 := i17.stored p14 (.bool s15) (.slice A15 n15 c15)
        replace i18 := i18.stored p14 (.bool s15) (.slice A15 n15 c15)
        replace i19 := i19.stored p14 (.bool s15) (.slice A15 n15 c15)
        replace hx := hx.stored p14 (.bool s15) (.slice A15 n15 c15)
        replace hW := below_stored hW (g := g14) (by omega) (.bool s15) (.slice A15 n15 c15)
        replace p15 := p15.far (g' := g14) (by omega) (.bool s15) (.slice A15 n15 c15)
        replace p16 := p16.far (g' := g14) (by omega) (.bool s15) (.slice A15 n15 c15)
        replace p17 := p17.far (g' := g14) (by omega) (.bool s15) (.slice A15 n15 c15)
        replace p18 := p18.far (g' := g14) (by omega) (.bool s15) (.slice A15 n15 c15)
        replace p19 := p19.far (g' := g14) (by omega) (.bool s15) (.slice A15 n15 c15)
        replace p14 := p14.stored (s' := s15) (A' := A15) (n' := n15) (c' := c15)
        replace i14 := i14.stored p15 (.bool s19) (.slice A19 n19 c19)
        replace i15 := i15.stored p15 (.bool s19) (.slice A19 n19 c19)
        replace i16 := i16.stored p15 (.bool s19) (.slice A19 n19 c19)
        replace i17 := i17.stored p15 (.bool s19) (.slice A19 n19 c19)
        replace i18 := i18.stored p15 (.bool s19) (.slice A19 n19 c19)
        replace i19 := i19.stored p15 (.bool s19) (.slice A19 n19 c19)
        replace hx := hx.stored p15 (.bool s19) (.slice A19 n19 c19)
        replace hW := below_stored hW (g := g15) (by omega) (.bool s19) (.slice A19 n19 c19)
        replace p14 := p14.far (g' := g15) (by omega) (.bool s19) (.slice A19 n19 c19)
        replace p16 := p16.far (g' := g15) (by omega) (.bool s19) (.slice A19 n19 c19)
        replace p17 := p17.far (g' := g15) (by omega) (.bool s19) (.slice A19 n19 c19)
        replace p18 := p18.far (g' := g15) (by omega) (.bool s19) (.slice A19 n19 c19)
        replace p19 := p19.far (g' := g15) (by omega) (.bool s19) (.slice A19 n19 c19)
        replace p15 := p15.stored (s' := s19) (A' := A19) (n' := n19) (c' := c19)
        rw [← hcut] at hW i14 i15 i16 i17 i18 i19 hx p14 p15 p16 p17 p18 p19
        obtain ⟨Xh4, rfl⟩ : ∃ X : World, X = wc := ⟨_, rfl⟩
        clear hcut d0
        have LQ : Lim 65 ((r0 / r1 : Nat) : Int) := (LR0.mono (show 64 ≤ 65 by omega)).le_abs2 (by simp; exact Nat.div_le_self _ _)
        have l18 := i18.len LQ
        have l16 := i16.len L0
        have l17 := i17.len L1
        have LP := Lib.hid (LQ.mul L1)
        go_upto_region 13 with (fail)
        refine wp_region_late (S := fun w' => Below Xh4.heap.size Xh4 w') (late := fun k => k == 6 || k == 7) (by kernel_rfl) ?_
        have hS : Below Xh4.heap.size Xh4 Xh4.drew := bdrew Xh4
        generalize Xh4.drew = u0 at hS ⊢
        refine wpAnyL_take (i := 0) (oi := ⟨_, _, _, _, _, _⟩) (v := ?_) (by intro k hk; simp at hk; simp; omega) rfl (by kernel_rfl) (by kernel_rfl) (by kernel_rfl) (by kernel_rfl) (fun _ _ _ h => h) (Or.inl ⟨by rfl, ?_⟩) hS ?_
        rotate_left
        ·intro w' hS'; have p' := p17.call hS'; have c0 := p'.cell0; have c1 := p'.cell1; (first | (go_simp; done) | (go_simp; with_reducible rfl) | with_reducible rfl)
        (try simp only [Act.put, List.setIfInBounds_toArray, List.set_cons_zero, List.set_cons_succ])
        refine wpAnyL_take (i := 1) (oi := ⟨_, _, _, _, _, _⟩) (v := ?_) (by intro k hk; simp at hk; simp; omega) rfl (by kernel_rfl) (by kernel_rfl) (by kernel_rfl) (by kernel_rfl) (fun _ _ _ h => h) (Or.inl ⟨by rfl, ?_⟩) hS ?_
        rotate_left
        ·intro w' hS'; have p' := p16.call hS'; have c0 := p'.cell0; have c1 := p'.cell1; (first | (go_simp; done) | (go_simp; with_reducible rfl) | with_reducible rfl)
        (try simp only [Act.put, List.setIfInBounds_toArray, List.set_cons_zero, List.set_cons_succ])
        refine wpAnyL_take (i := 2) (oi := ⟨_, _, _, _, _, _⟩) (v := ?_) (by intro k hk; simp at hk; simp; omega) rfl (by kernel_rfl) (by kernel_rfl) (by kernel_rfl) (by kernel_rfl) (fun _ _ _ h => h) (Or.inl ⟨by rfl, ?_⟩) hS ?_
        rotate_left
        ·intro w' hS'; have p' := p18.call hS'; have c0 := p'.cell0; have c1 := p'.cell1; (first | (go_simp; done) | (go_simp; with_reducible rfl) | with_reducible rfl)
        (try simp only [Act.put, List.setIfInBounds_toArray, List.set_cons_zero, List.set_cons_succ])
        refine wpAnyL_take (i := 3) (oi := ⟨_, _, _, _, _, _⟩) (v := ?_) (by intro k hk; simp at hk; simp; omega) rfl (by kernel_rfl) (by kernel_rfl) (by kernel_rfl) (by kernel_rfl) (fun _ _ _ h => h) (Or.inl ⟨by rfl, ?_⟩) hS ?_
        rotate_left
        ·intro w' hS'; have p' := p17.call hS'; have c0 := p'.cell0; have c1 := p'.cell1; (first | (go_simp; done) | (go_simp; with_reducible rfl) | with_reducible rfl)
        (try simp only [Act.put, List.setIfInBounds_toArray, List.set_cons_zero, List.set_cons_succ])
        refine wpAnyL_ready (rs := [4]) (by kernel_rfl) (by simp) ?_
        refine AllReadyL.cons (o := ⟨_, _, _, _, _, _⟩) rfl (fun K hK => ?_) AllReadyL.nil
        go_simp
        refine (refMul_any _ (i18.call hS).any (i17.call hS).any (by omega) (by omega)).mono ?_
        rintro e u1 ⟨t1, B1, m1, e1, rfl, j1, d1⟩
        replace hS := bthen hS d1
        first | (with_reducible refine hK.out _ _ (SL.of hS) ?_) | (go_wp2_with fail; with_reducible refine hK.out _ _ (SL.of hS) ?_)
        clear hK K
        (try simp only [Act.put, List.setIfInBounds_toArray, List.set_cons_zero, List.set_cons_succ])
        refine wpAnyL_ready (rs := [5]) (by kernel_rfl) (by simp) ?_
        refine AllReadyL.cons (o := ⟨_, _, _, _, _, _⟩) rfl (fun K hK => ?_) AllReadyL.nil
        go_simp
        refine (refSub_any _ (i16.call hS).any j1.any (by omega) (Nat.le_trans (j1.len LP.out) (by omega))).mono ?_
        rintro e u2 ⟨t2, B2, m2, e2, rfl, j2, d2⟩
        replace hS := bthen hS d2
        (replace j1 := j1.call d2)
        first | (with_reducible refine hK.out _ _ (SL.of hS) ?_) | (go_wp2_with fail; with_reducible refine hK.out _ _ (SL.of hS) ?_)
        clear hK K
        (try simp only [Act.put, List.setIfInBounds_toArray, List.set_cons_zero, List.set_cons_succ])
        refine wpAnyL_ready (rs := [6]) (by kernel_rfl) (by simp) ?_
        refine AllReadyL.cons (o := ⟨_, _, _, _, _, _⟩) rfl (fun K hK => ?_) AllReadyL.nil
        replace hW := bthen hW hS
        (replace i15 := i15.call hS); (replace i19 := i19.call hS); (replace i16 := i16.call hS); (replace i17 := i17.call hS); (replace i18 := i18.call hS); (replace hx := hx.call hS); (replace p14 := p14.call hS); (replace p15 := p15.call hS); (replace p16 := p16.call hS); (replace p17 := p17.call hS); (replace p18 := p18.call hS); (replace p19 := p19.call hS)
        clear hS
        obtain ⟨q0, q1, f0, f1, k0, k1⟩ := p16.all (.bool s17) (.slice A17 n17 c17)
        go_simp
        refine hK.out _ _ (SL.done rfl) ?_
        clear hK K q0 q1 f0 f1 k0 k1
        replace hW := below_stored hW (g := g16) (by omega) (.bool s17) (.slice A17 n17 c17)
        replace j1 := j1.stored p16 (.bool s17) (.slice A17 n17 c17)
        replace j2 := j2.stored p16 (.bool s17) (.slice A17 n17 c17)
        replace i15 := i15.stored p16 (.bool s17) (.slice A17 n17 c17)
        replace i19 := i19.stored p16 (.bool s17) (.slice A17 n17 c17)
        replace i16 := i16.stored p16 (.bool s17) (.slice A17 n17 c17)
        replace i17 := i17.stored p16 (.bool s17) (.slice A17 n17 c17)
        replace i18 := i18.stored p16 (.bool s17) (.slice A17 n17 c17)
        replace hx := hx.stored p16 (.bool s17) (.slice A17 n17 c17)
        replace p14 := p14.far (g' := g16) (by omega) (.bool s17) (.slice A17 n17 c17)
        replace p15 := p15.far (g' := g16) (by omega) (.bool s17) (.slice A17 n17 c17)
        replace p17 := p17.far (g' := g16) (by omega) (.bool s17) (.slice A17 n17 c17)
        replace p18 := p18.far (g' := g16) (by omega) (.bool s17) (.slice A17 n17 c17)
        replace p19 := p19.far (g' := g16) (by omega) (.bool s17) (.slice A17 n17 c17)
        replace p16 := p16.stored (s' := s17) (A' := A17) (n' := n17) (c' := c17)
        generalize (u2.setCell ⟨g16, 0, none⟩ (.bool s17)).setCell ⟨g16, 1, none⟩ (.slice A17 n17 c17) = su216 at *
        (try simp only [Act.put, List.setIfInBounds_toArray, List.set_cons_zero, List.set_cons_succ])
        refine wpAnyL_ready (rs := [7]) (by kernel_rfl) (by simp) ?_
        refine AllReadyL.cons (o := ⟨_, _, _, _, _, _⟩) rfl (fun K hK => ?_) AllReadyL.nil
        obtain ⟨q0, q1, f0, f1, k0, k1⟩ := p17.all (.bool t2) (.slice B2 m2 e2)
        go_simp
        refine hK.out _ _ (SL.done rfl) ?_
        clear hK K q0 q1 f0 f1 k0 k1
        replace hW := below_stored hW (g := g16 + 1) (by omega) (.bool t2) (.slice B2 m2 e2)
        replace j1 := j1.stored p17 (.bool t2) (.slice B2 m2 e2)
        replace j2 := j2.stored p17 (.bool t2) (.slice B2 m2 e2)
        replace i15 := i15.stored p17 (.bool t2) (.slice B2 m2 e2)
        replace i19 := i19.stored p17 (.bool t2) (.slice B2 m2 e2)
        replace i16 := i16.stored p17 (.bool t2) (.slice B2 m2 e2)
        replace i17 := i17.stored p17 (.bool t2) (.slice B2 m2 e2)
        replace i18 := i18.stored p17 (.bool t2) (.slice B2 m2 e2)
        replace hx := hx.stored p17 (.bool t2) (.slice B2 m2 e2)
        replace p14 := p14.far (g' := g16 + 1) (by omega) (.bool t2) (.slice B2 m2 e2)
        replace p15 := p15.far (g' := g16 + 1) (by omega) (.bool t2) (.slice B2 m2 e2)
        replace p16 := p16.far (g' := g16 + 1) (by omega) (.bool t2) (.slice B2 m2 e2)
        replace p18 := p18.far (g' := g16 + 1) (by omega) (.bool t2) (.slice B2 m2 e2)
        replace p19 := p19.far (g' := g16 + 1) (by omega) (.bool t2) (.slice B2 m2 e2)
        replace p17 := p17.stored (s' := t2) (A' := B2) (n' := m2) (c' := e2)
        generalize (su216.setCell ⟨g16 + 1, 0, none⟩ (.bool t2)).setCell ⟨g16 + 1, 1, none⟩ (.slice B2 m2 e2) = ssu21617 at *
        (try simp only [Act.put, List.setIfInBounds_toArray, List.set_cons_zero, List.set_cons_succ])
        refine wpAnyL_done (by kernel_rfl) ?_ _
        go_wp2_with fail
        go_roundg (r0 % r1)
        case rel => exact ⟨r1, z1, _, HS.out, by have := Nat.mod_lt r0 (Nat.pos_of_ne_zero h0); omega, hx, ⟨_, _, _, _, p14, i15⟩, ⟨_, _, _, _, p15, i19⟩, ⟨_, _, _, _, p16, i17⟩, ⟨_, _, _, _, p17, j2⟩, hW⟩
        case measure => exact Nat.mod_lt r0 (Nat.pos_of_ne_zero h0)
end Go.Proofs.YteicjbinginamaaDoor
