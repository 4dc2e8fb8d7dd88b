/- Walk of inverse. -/
import Derived.Test.YteicjbinginamaaDoorInvPlain
import Derived.Test.YteicjbinginamaaDoorRefH
namespace Go.Proofs.YteicjbinginamaaDoor
open Go.RowKit
set_option linter.unusedVariables false

/-- a box that holds a canonical integer -/
def Bx (w : World) (g : Nat) (z : Int) : Prop := ∃ s A n c, Pr w g s A n c ∧ CInt w s A n c z
/-- a quotient and a remainder -/
def RetDN (w : World) (q r : Int) (e : Ending) (w' : World) : Prop :=
  ∃ s1 A1 n1 c1 s2 A2 n2 c2, e = .returned (.tuple #[.agg #[.bool s1, .slice A1 n1 c1], .agg #[.bool s2, .slice A2 n2 c2], .int .i64 0]) ∧ CInt w' s1 A1 n1 c1 q ∧ CInt w' s2 A2 n2 c2 r ∧ Below w.heap.size w w'
theorem RetDM.ne {w w' : World} {x y : Int} {e : Ending} (h : RetDM w x y e w') (hy : y ≠ 0) : RetDN w (x.fdiv y) (x.fmod y) e w' := by
  obtain ⟨s1, A1, n1, c1, s2, A2, n2, c2, code, rfl, i1, i2, rfl, d⟩ := h
  rw [if_neg hy] at i2 ⊢
  exact ⟨s1, A1, n1, c1, s2, A2, n2, c2, rfl, i1, i2, d⟩
theorem divMod_ne {s t : Bool} {A A' : Option Addr} {n n' c c' : Nat} {x y : Int} (w : World) (ha : AInt w s A n c x) (hb : AInt w t A' n' c' y) (hn : n ≤ 549755813888) (hn' : n' ≤ 549755813888) (hy : y ≠ 0) :
    Calls Tryd.prog 14 #[.agg #[.bool s, .slice A n c], .agg #[.bool t, .slice A' n' c']] w (RetDN w (x.fdiv y) (x.fmod y)) := (divMod_any w ha hb hn hn').mono fun _ _ h => h.ne hy
/-- three boxed arguments and the result's place -/
theorem boxes3r (w : World) (s t u : Bool) (A A' B : Option Addr) (n n' m c c' d : Nat) : ∃ W, W = (((w.alloc (.cells #[.bool s, .slice A n c] 24)).alloc (.cells #[.bool t, .slice A' n' c'] 24)).alloc (.cells #[.bool u, .slice B m d] 24)).alloc (.cells #[.bool false, .slice none 0 0] 24) ∧
    Below w.heap.size w W ∧ Pr W w.heap.size s A n c ∧ Pr W (w.heap.size + 1) t A' n' c' ∧ Pr W (w.heap.size + 1 + 1) u B m d ∧ Pr W (w.heap.size + 1 + 1 + 1) false none 0 0 := by
  obtain ⟨W, hW, h1, h2, h3⟩ := boxes2' w s t A A' n n' c c'
  obtain ⟨Y, hY, k1, k2, k3⟩ := boxes2' W u false B none m 0 d 0
  have hs : W.heap.size = w.heap.size + 1 + 1 := by rw [hW]; simp
  rw [hs] at k2 k3
  exact ⟨Y, by rw [hY, hW], bthen h1 k1, h2.call k1, h3.call k1, k2, k3⟩
/-- the state of the loop of inverse -/
def InvW (w wr : World) (g10 g11 g12 g13 m : Nat) (T : Int) (r1 : Nat) : Prop :=
  ∃ (r0 : Nat) (s0 s1 : Int), InvP m r0 r1 s0 s1 T ∧ r1 ≤ m ∧ Bx wr (w.heap.size + 1 + 1) (m : Int) ∧ Bx wr g10 (r0 : Int) ∧ Bx wr g11 (r1 : Int) ∧ Bx wr g12 s0 ∧ Bx wr g13 s1 ∧ Pr wr (w.heap.size + 1 + 1 + 1) false none 0 0 ∧ Below w.heap.size w wr

theorem Lim.le_abs {k : Nat} {x : Int} {m : Nat} (h : Lim k (m : Int)) (hx : x.natAbs ≤ m) : Lim k x := by unfold Lim at *; rw [Int.natAbs_natCast] at h; omega
theorem Lim.le_abs' {k : Nat} {x y : Int} (h : Lim k y) (hx : x.natAbs ≤ y.natAbs) : Lim k x := by unfold Lim at *; omega
theorem nat_fdiv (a b : Nat) : (a : Int).fdiv (b : Int) = ((a / b : Nat) : Int) := by rw [Int.fdiv_eq_ediv_of_nonneg _ (by omega)]; rfl
theorem nat_fmod (a b : Nat) : (a : Int).fmod (b : Int) = ((a % b : Nat) : Int) := by rw [Int.fmod_eq_emod_of_nonneg _ (by omega)]; rfl

set_option maxHeartbeats 4000000 in
set_option maxRecDepth 100000 in
theorem inverse_any {s t u : Bool} {A A' B : Option Addr} {n n' l c c' d : Nat} {x : Int} {g m : Nat} (w : World) (ha : AInt w s A n c x) (hg : CInt w t A' n' c' (g : Int)) (hm : CInt w u B l d (m : Int)) (hn : n ≤ 1048576) (hn' : n' ≤ 1048576) (hl : l ≤ 1048576) (hg0 : 0 < g) (hm1 : 1 ≤ m) :
    Calls Tryd.prog 77 #[.agg #[.bool s, .slice A n c], .agg #[.bool t, .slice A' n' c'], .agg #[.bool u, .slice B l d]] w (RetInt w ((invN m ((x.fdiv g).fmod m).toNat 0 1).fmod m)) := by
  obtain ⟨W, hWe, hW, p3, p4, p5, p6⟩ := boxes3r w s t u A A' B n n' l c c' d
  replace ha := ha.call hW
  replace hg := hg.call hW
  replace hm := hm.call hW
  have i3 := ha
  have i4 := hg
  have i5 := hm
  clear ha hg hm
  have LX : Lim 1048576 x := i3.lim.mono hn
  have LM : Lim 1048576 (m : Int) := i5.any.lim.mono hl
  have LC := Lib.hid (LX.fdiv (g : Int))
  have hgz : (g : Int) ≠ 0 := by omega
  have hmz : (m : Int) ≠ 0 := by omega
  have hc0 := Int.fmod_nonneg_of_pos (x.fdiv g) (show (0 : Int) < m by omega)
  have hc1 := Int.fmod_lt_of_pos (x.fdiv g) (show (0 : Int) < m by omega)
  obtain ⟨cc, hcc⟩ : ∃ cc : Nat, (x.fdiv g).fmod m = cc := ⟨((x.fdiv g).fmod m).toNat, by omega⟩
  rw [hcc] at hc0 hc1
  have HCC := Lib.hid hcc
  rw [hcc, Int.toNat_natCast]
  have HI := Lib.hid (InvP.start (c := cc) hm1)
  generalize invN m cc 0 1 = T at *
  clear hcc
  go_enter Tryd.func77, Tryd.ntmps77
  go_upto_region 1 with (fail)
  rw [← hWe]
  clear hWe
  
  obtain ⟨o3_0, o3_1⟩ := p3.cells1
  obtain ⟨o4_0, o4_1⟩ := p4.cells1
  go_wp2_with fail
  refine (divMod_ne _ i3 i4.any (by omega) (by omega) hgz).mono ?_
  rintro e X1 ⟨s7, A7, n7, c7, s8, A8, n8, c8, rfl, i7, i8, dX1⟩
  have zX1 := dX1.size
  have lX1_p3 := p3.lt
  have lX1_p4 := p4.lt
  have lX1_p5 := p5.lt
  have lX1_p6 := p6.lt
  (replace p3 := p3.call dX1); (replace p4 := p4.call dX1); (replace p5 := p5.call dX1); (replace p6 := p6.call dX1); (replace i3 := i3.call dX1); (replace i4 := i4.call dX1); (replace i5 := i5.call dX1)
  replace hW := bthen hW dX1
  clear o3_0 o3_1 o4_0 o4_1
  obtain ⟨X2a, hX2a⟩ : ∃ Y, Y = X1.alloc (.cells #[.bool s7, .slice A7 n7 c7] 24) := ⟨_, rfl⟩
  have dbX2a : Below X1.heap.size X1 X2a := by rw [hX2a]; exact bone _ _
  have eX2a : X1.heap.size = X1.heap.size := by first | rfl | (rw [rfl]; simp)
  have p7 : Pr X2a (X1.heap.size) s7 A7 n7 c7 := by rw [← eX2a, hX2a]; exact Pr.new _ _ _ _ _
  (replace p3 := p3.call dbX2a); (replace p4 := p4.call dbX2a); (replace p5 := p5.call dbX2a); (replace p6 := p6.call dbX2a); (replace i3 := i3.call dbX2a); (replace i4 := i4.call dbX2a); (replace i5 := i5.call dbX2a); (replace i7 := i7.call dbX2a); (replace i8 := i8.call dbX2a)
  replace hW := bthen hW dbX2a
  obtain ⟨X2, hX2⟩ : ∃ Y, Y = X2a.alloc (.cells #[.bool s8, .slice A8 n8 c8] 24) := ⟨_, rfl⟩
  have dbX2 : Below X2a.heap.size X2a X2 := by rw [hX2]; exact bone _ _
  have eX2 : X2a.heap.size = X1.heap.size + 1 := by first | rfl | (rw [hX2a]; simp)
  have p8 : Pr X2 (X1.heap.size + 1) s8 A8 n8 c8 := by rw [← eX2, hX2]; exact Pr.new _ _ _ _ _
  (replace p3 := p3.call dbX2); (replace p4 := p4.call dbX2); (replace p5 := p5.call dbX2); (replace p6 := p6.call dbX2); (replace i3 := i3.call dbX2); (replace i4 := i4.call dbX2); (replace i5 := i5.call dbX2); (replace p7 := p7.call dbX2); (replace i7 := i7.call dbX2); (replace i8 := i8.call dbX2)
  replace hW := bthen hW dbX2
  go_upto_region 2 with (fail)
  rw [← hX2a, ← hX2]
  clear eX2 hX2 dbX2 eX2a hX2a dbX2a
  generalize X1.heap.size = g7 at *
  have l7 := i7.len LC.out
  obtain ⟨o7_0, o7_1⟩ := p7.cells1
  obtain ⟨o5_0, o5_1⟩ := p5.cells1
  go_wp2_with fail
  refine (divMod_ne _ i7.any i5.any (by omega) (by omega) hmz).mono ?_
  rintro e X3 ⟨s1, A1, n1, c1, s2, A2, n2, c2, rfl, j1, j2, dX3⟩
  have zX3 := dX3.size
  have lX3_p3 := p3.lt
  have lX3_p4 := p4.lt
  have lX3_p5 := p5.lt
  have lX3_p6 := p6.lt
  have lX3_p7 := p7.lt
  have lX3_p8 := p8.lt
  (replace p3 := p3.call dX3); (replace p4 := p4.call dX3); (replace p5 := p5.call dX3); (replace p6 := p6.call dX3); (replace p7 := p7.call dX3); (replace p8 := p8.call dX3); (replace i3 := i3.call dX3); (replace i4 := i4.call dX3); (replace i5 := i5.call dX3); (replace i7 := i7.call dX3); (replace i8 := i8.call dX3)
  replace hW := bthen hW dX3
  clear o7_0 o7_1 o5_0 o5_1
  rw [HCC.out] at j2
  clear j1
  obtain ⟨q0, q1, f0, f1, k0, k1⟩ := p7.all (.bool s2) (.slice A2 n2 c2)
  have hW_ := below_stored hW (g := g7) (by omega) (.bool s2) (.slice A2 n2 c2)
  have p3_ := p3.far (g' := g7) (by omega) (.bool s2) (.slice A2 n2 c2)
  have p4_ := p4.far (g' := g7) (by omega) (.bool s2) (.slice A2 n2 c2)
  have p5_ := p5.far (g' := g7) (by omega) (.bool s2) (.slice A2 n2 c2)
  have p6_ := p6.far (g' := g7) (by omega) (.bool s2) (.slice A2 n2 c2)
  have p7_ := p7.stored (s' := s2) (A' := A2) (n' := n2) (c' := c2)
  have p8_ := p8.far (g' := g7) (by omega) (.bool s2) (.slice A2 n2 c2)
  have i3_ := i3.stored p7 (.bool s2) (.slice A2 n2 c2)
  have i4_ := i4.stored p7 (.bool s2) (.slice A2 n2 c2)
  have i5_ := i5.stored p7 (.bool s2) (.slice A2 n2 c2)
  have i8_ := i8.stored p7 (.bool s2) (.slice A2 n2 c2)
  have j2_ := j2.stored p7 (.bool s2) (.slice A2 n2 c2)
  go_upto_region 3 with (fail)
  clear q0 q1 f0 f1 k0 k1 hW i3 i4 i5 i8 j2 p3 p4 p5 p6 p7 p8 i7
  generalize (X3.setCell ⟨g7, 0, none⟩ (.bool s2)).setCell ⟨g7, 1, none⟩ (.slice A2 n2 c2) = X4 at *
  have hW := hW_; have i3 := i3_; have i4 := i4_; have i5 := i5_; have i8 := i8_; have j2 := j2_; have p3 := p3_; have p4 := p4_; have p5 := p5_; have p6 := p6_; have p7 := p7_; have p8 := p8_
  clear hW_ i3_ i4_ i5_ i8_ j2_ p3_ p4_ p5_ p6_ p7_ p8_
  clear p3 i3 p4 i4 p8 i8
  go_upto_region 3 with (fail)
  go_cut [10, 11] (fun v10 v11 wz => ∃ gz10 gz11 : Nat, v10 = .pointer (some ⟨gz10, 0, none⟩) ∧ v11 = .pointer (some ⟨gz11, 0, none⟩) ∧ w.heap.size + 1 + 1 < gz10 ∧ w.heap.size + 1 + 1 + 1 < gz10 ∧ g7 < gz10 ∧ gz10 ≠ gz11 ∧ w.heap.size + 1 + 1 < gz11 ∧ w.heap.size + 1 + 1 + 1 < gz11 ∧ g7 < gz11 ∧ Hid (Bx wz (w.heap.size + 1 + 1) ((m : Int)) ∧ Pr wz (w.heap.size + 1 + 1 + 1) false none 0 0 ∧ Bx wz (g7) ((cc : Int)) ∧ Bx wz (gz10) ((m : Int)) ∧ Bx wz (gz11) ((cc : Int)) ∧ Below w.heap.size w wz))
  case first =>
    have lo5 := p5.lt
    have lo6 := p6.lt
    have lo7 := p7.lt
    refine wp_region_held_drew (S := fun w' => Below X4.heap.size X4 w') (by kernel_rfl) (bdrew X4) (fun _ => ?_)
    have hS : Below X4.heap.size X4 X4.drew := bdrew X4
    generalize X4.drew = u0 at hS ⊢
    refine wpAnyH_take (i := 0) (oi := ⟨_, _, _, _, _, _⟩) (v := ?_) rfl (by kernel_rfl) (by kernel_rfl) (by kernel_rfl) (fun _ _ _ h => h) (Or.inl ⟨by rfl, ?_⟩) hS ?_
    rotate_left
    · intro w' hS'; have p' := p5.call hS'; have c0 := p'.cell0; have c1 := p'.cell1; (first | (go_simp; done) | (go_simp; with_reducible rfl) | with_reducible rfl)
    (try simp only [Act.put, List.setIfInBounds_toArray, List.set_cons_zero, List.set_cons_succ])
    refine wpAnyH_take (i := 1) (oi := ⟨_, _, _, _, _, _⟩) (v := ?_) rfl (by kernel_rfl) (by kernel_rfl) (by kernel_rfl) (fun _ _ _ h => h) (Or.inl ⟨by rfl, ?_⟩) hS ?_
    rotate_left
    · intro w' hS'; have p' := p7.call hS'; have c0 := p'.cell0; have c1 := p'.cell1; (first | (go_simp; done) | (go_simp; with_reducible rfl) | with_reducible rfl)
    (try simp only [Act.put, List.setIfInBounds_toArray, List.set_cons_zero, List.set_cons_succ])
    refine wpAnyH_ready (rs := [2, 3]) (by kernel_rfl) (by simp) ?_
    refine AllReadyH.cons (o := ⟨_, _, _, _, _, _⟩) rfl (fun K hK => ?_) (AllReadyH.cons (o := ⟨_, _, _, _, _, _⟩) rfl (fun K hK => ?_) AllReadyH.nil)
    · go_simp
      have pz10 := Pr.new u0 false none 0 0
      have az := bone u0 (.cells #[.bool false, .slice none 0 0] 24)
      have hz10 := hS.size
      replace hS := bthen hS az
      refine hK.out _ _ hS (fun _ => ?_)
      clear hK K az
      generalize hgz : u0.heap.size = gz10 at hz10 pz10 ⊢
      clear hgz
      generalize u0.alloc (.cells #[.bool false, .slice none 0 0] 24) = u0z10 at *
      (try simp only [Act.put, List.setIfInBounds_toArray, List.set_cons_zero, List.set_cons_succ])
      refine wpAnyH_ready (rs := [3]) (by kernel_rfl) (by simp) ?_
      refine AllReadyH.cons (o := ⟨_, _, _, _, _, _⟩) rfl (fun K hK => ?_) AllReadyH.nil
      go_simp
      have pz11 := Pr.new u0z10 false none 0 0
      have az := bone u0z10 (.cells #[.bool false, .slice none 0 0] 24)
      have hz11 := hS.size
      have lt10_11 := pz10.lt
      replace hS := bthen hS az
      (replace pz10 := pz10.call az)
      refine hK.out _ _ hS (fun _ => ?_)
      clear hK K az
      generalize hgz : u0z10.heap.size = gz11 at hz11 pz11 ⊢ lt10_11
      clear hgz
      generalize u0z10.alloc (.cells #[.bool false, .slice none 0 0] 24) = u0z10z11 at *
      (try simp only [Act.put, List.setIfInBounds_toArray, List.set_cons_zero, List.set_cons_succ])
      refine wpAnyH_ready (rs := [4]) (by kernel_rfl) (by simp) ?_
      refine AllReadyH.cons (o := ⟨_, _, _, _, _, _⟩) rfl (fun K hK => ?_) AllReadyH.nil
      obtain ⟨q0, q1, f0, f1, k0, k1⟩ := pz10.all (.bool u) (.slice B l d)
      go_simp
      replace hS := below_stored hS hz10 (.bool u) (.slice B l d)
      refine hK.out _ _ hS (fun _ => ?_)
      clear hK K q0 q1 f0 f1 k0 k1
      replace pz11 := pz11.far (g' := gz10) (by omega) (.bool u) (.slice B l d)
      replace pz10 := pz10.stored (s' := u) (A' := B) (n' := l) (c' := d)
      (try simp only [Act.put, List.setIfInBounds_toArray, List.set_cons_zero, List.set_cons_succ])
      refine wpAnyH_ready (rs := [5]) (by kernel_rfl) (by simp) ?_
      refine AllReadyH.cons (o := ⟨_, _, _, _, _, _⟩) rfl (fun K hK => ?_) AllReadyH.nil
      obtain ⟨q0, q1, f0, f1, k0, k1⟩ := pz11.all (.bool s2) (.slice A2 n2 c2)
      go_simp
      replace hS := below_stored hS hz11 (.bool s2) (.slice A2 n2 c2)
      refine hK.out _ _ hS (fun _ => ?_)
      clear hK K q0 q1 f0 f1 k0 k1
      replace pz10 := pz10.far (g' := gz11) (by omega) (.bool s2) (.slice A2 n2 c2)
      replace pz11 := pz11.stored (s' := s2) (A' := A2) (n' := n2) (c' := c2)
      (try simp only [Act.put, List.setIfInBounds_toArray, List.set_cons_zero, List.set_cons_succ])
      refine wpAnyH_done (by kernel_rfl) ?_ _
      go_wp2_with fail
      go_meet
      case rel => exact ⟨gz10, gz11, rfl, rfl, by omega, by omega, by omega, by omega, by omega, by omega, by omega, ⟨⟨_, _, _, _, (p5.call hS), (i5.call hS)⟩, (p6.call hS), ⟨_, _, _, _, (p7.call hS), (j2.call hS)⟩, ⟨_, _, _, _, pz10, (i5.call hS)⟩, ⟨_, _, _, _, pz11, (j2.call hS)⟩, (bthen hW hS)⟩⟩
    · go_simp
      have pz11 := Pr.new u0 false none 0 0
      have az := bone u0 (.cells #[.bool false, .slice none 0 0] 24)
      have hz11 := hS.size
      replace hS := bthen hS az
      refine hK.out _ _ hS (fun _ => ?_)
      clear hK K az
      generalize hgz : u0.heap.size = gz11 at hz11 pz11 ⊢
      clear hgz
      generalize u0.alloc (.cells #[.bool false, .slice none 0 0] 24) = u0z11 at *
      (try simp only [Act.put, List.setIfInBounds_toArray, List.set_cons_zero, List.set_cons_succ])
      refine wpAnyH_ready (rs := [2]) (by kernel_rfl) (by simp) ?_
      refine AllReadyH.cons (o := ⟨_, _, _, _, _, _⟩) rfl (fun K hK => ?_) AllReadyH.nil
      go_simp
      have pz10 := Pr.new u0z11 false none 0 0
      have az := bone u0z11 (.cells #[.bool false, .slice none 0 0] 24)
      have hz10 := hS.size
      have lt11_10 := pz11.lt
      replace hS := bthen hS az
      (replace pz11 := pz11.call az)
      refine hK.out _ _ hS (fun _ => ?_)
      clear hK K az
      generalize hgz : u0z11.heap.size = gz10 at hz10 pz10 ⊢ lt11_10
      clear hgz
      generalize u0z11.alloc (.cells #[.bool false, .slice none 0 0] 24) = u0z11z10 at *
      (try simp only [Act.put, List.setIfInBounds_toArray, List.set_cons_zero, List.set_cons_succ])
      refine wpAnyH_ready (rs := [4]) (by kernel_rfl) (by simp) ?_
      refine AllReadyH.cons (o := ⟨_, _, _, _, _, _⟩) rfl (fun K hK => ?_) AllReadyH.nil
      obtain ⟨q0, q1, f0, f1, k0, k1⟩ := pz10.all (.bool u) (.slice B l d)
      go_simp
      replace hS := below_stored hS hz10 (.bool u) (.slice B l d)
      refine hK.out _ _ hS (fun _ => ?_)
      clear hK K q0 q1 f0 f1 k0 k1
      replace pz11 := pz11.far (g' := gz10) (by omega) (.bool u) (.slice B l d)
      replace pz10 := pz10.stored (s' := u) (A' := B) (n' := l) (c' := d)
      (try simp only [Act.put, List.setIfInBounds_toArray, List.set_cons_zero, List.set_cons_succ])
      refine wpAnyH_ready (rs := [5]) (by kernel_rfl) (by simp) ?_
      refine AllReadyH.cons (o := ⟨_, _, _, _, _, _⟩) rfl (fun K hK => ?_) AllReadyH.nil
      obtain ⟨q0, q1, f0, f1, k0, k1⟩ := pz11.all (.bool s2) (.slice A2 n2 c2)
      go_simp
      replace hS := below_stored hS hz11 (.bool s2) (.slice A2 n2 c2)
      refine hK.out _ _ hS (fun _ => ?_)
      clear hK K q0 q1 f0 f1 k0 k1
      replace pz10 := pz10.far (g' := gz11) (by omega) (.bool s2) (.slice A2 n2 c2)
      replace pz11 := pz11.stored (s' := s2) (A' := A2) (n' := n2) (c' := c2)
      (try simp only [Act.put, List.setIfInBounds_toArray, List.set_cons_zero, List.set_cons_succ])
      refine wpAnyH_done (by kernel_rfl) ?_ _
      go_wp2_with fail
      go_meet
      case rel => exact ⟨gz10, gz11, rfl, rfl, by omega, by omega, by omega, by omega, by omega, by omega, by omega, ⟨⟨_, _, _, _, (p5.call hS), (i5.call hS)⟩, (p6.call hS), ⟨_, _, _, _, (p7.call hS), (j2.call hS)⟩, ⟨_, _, _, _, pz10, (i5.call hS)⟩, ⟨_, _, _, _, pz11, (j2.call hS)⟩, (bthen hW hS)⟩⟩
  case rest =>
    clear hW p5 p6 p7 i5 j2
    obtain ⟨g10, g11, rfl, rfl, ne3_0, ne3_1, ne3_2, ne3_3, ne3_4, ne3_5, ne3_6, HB⟩ := hcut
    obtain ⟨⟨s5, A5, n5, c5, p5, i5⟩, p6, ⟨s7, A7, n7, c7, p7, i7⟩, ⟨s10, A10, n10, c10, p10, i10⟩, ⟨s11, A11, n11, c11, p11, i11⟩, hW⟩ := HB.out
    obtain ⟨X5, rfl⟩ : ∃ X : World, X = wc := ⟨_, rfl⟩
    clear HB
    clear p7 i7
    go_wp2_with fail
    refine (fromInt64_any 0 _ (by omega) (by omega)).mono ?_
    rintro e X6 ⟨s12, A12, n12, c12, rfl, i12, dX6⟩
    have zX6 := dX6.size
    have lX6_p5 := p5.lt
    have lX6_p6 := p6.lt
    have lX6_p10 := p10.lt
    have lX6_p11 := p11.lt
    (replace p5 := p5.call dX6); (replace p6 := p6.call dX6); (replace p10 := p10.call dX6); (replace p11 := p11.call dX6); (replace i5 := i5.call dX6); (replace i10 := i10.call dX6); (replace i11 := i11.call dX6)
    replace hW := bthen hW dX6
    go_wp2_with fail
    refine (fromInt64_any 1 _ (by omega) (by omega)).mono ?_
    rintro e X7 ⟨s13, A13, n13, c13, rfl, i13, dX7⟩
    have zX7 := dX7.size
    have lX7_p5 := p5.lt
    have lX7_p6 := p6.lt
    have lX7_p10 := p10.lt
    have lX7_p11 := p11.lt
    (replace p5 := p5.call dX7); (replace p6 := p6.call dX7); (replace p10 := p10.call dX7); (replace p11 := p11.call dX7); (replace i5 := i5.call dX7); (replace i10 := i10.call dX7); (replace i11 := i11.call dX7); (replace i12 := i12.call dX7)
    replace hW := bthen hW dX7
    obtain ⟨X8a, hX8a⟩ : ∃ Y, Y = X7.alloc (.cells #[.bool s12, .slice A12 n12 c12] 24) := ⟨_, rfl⟩
    have dbX8a : Below X7.heap.size X7 X8a := by rw [hX8a]; exact bone _ _
    have eX8a : X7.heap.size = X7.heap.size := by first | rfl | (rw [rfl]; simp)
    have p12 : Pr X8a (X7.heap.size) s12 A12 n12 c12 := by rw [← eX8a, hX8a]; exact Pr.new _ _ _ _ _
    (replace p5 := p5.call dbX8a); (replace p6 := p6.call dbX8a); (replace p10 := p10.call dbX8a); (replace p11 := p11.call dbX8a); (replace i5 := i5.call dbX8a); (replace i10 := i10.call dbX8a); (replace i11 := i11.call dbX8a); (replace i12 := i12.call dbX8a); (replace i13 := i13.call dbX8a)
    replace hW := bthen hW dbX8a
    obtain ⟨X8, hX8⟩ : ∃ Y, Y = X8a.alloc (.cells #[.bool s13, .slice A13 n13 c13] 24) := ⟨_, rfl⟩
    have dbX8 : Below X8a.heap.size X8a X8 := by rw [hX8]; exact bone _ _
    have eX8 : X8a.heap.size = X7.heap.size + 1 := by first | rfl | (rw [hX8a]; simp)
    have p13 : Pr X8 (X7.heap.size + 1) s13 A13 n13 c13 := by rw [← eX8, hX8]; exact Pr.new _ _ _ _ _
    (replace p5 := p5.call dbX8); (replace p6 := p6.call dbX8); (replace p10 := p10.call dbX8); (replace p11 := p11.call dbX8); (replace i5 := i5.call dbX8); (replace i10 := i10.call dbX8); (replace i11 := i11.call dbX8); (replace i12 := i12.call dbX8); (replace i13 := i13.call dbX8); (replace p12 := p12.call dbX8)
    replace hW := bthen hW dbX8
    go_wp2_with fail
    rw [← hX8a, ← hX8]
    clear eX8 hX8 dbX8 eX8a hX8a dbX8a
    generalize X7.heap.size = g12 at *
    have HE : Hid (InvW w X8 g10 g11 g12 (g12 + 1) m T cc) := ⟨m, 0, 1, HI.out, by omega, ⟨_, _, _, _, p5, i5⟩, ⟨_, _, _, _, p10, i10⟩, ⟨_, _, _, _, p11, i11⟩, ⟨_, _, _, _, p12, i12⟩, ⟨_, _, _, _, p13, i13⟩, p6, hW⟩
    have o1 : w.heap.size + 1 + 1 + 1 < g10 := by omega
    have o2 : w.heap.size + 1 + 1 + 1 < g11 := by omega
    have o3 : g10 ≠ g11 := by omega
    have o4 : g10 < g12 := by omega
    have o5 : g11 < g12 := by omega
    clear p5 i5 p6 p10 i10 p11 i11 p12 i12 p13 i13
    clear hW HI
    replace LM := Lib.hid LM
    go_loopg [14, 15, 16] cc (fun r1 _ _ _ wx => Hid (InvW w wx g10 g11 g12 (g12 + 1) m T r1))
    case atStart => exact HE
    case round =>
      clear HE
      obtain ⟨r1, rfl⟩ : ∃ i, i = gk := ⟨_, rfl⟩
      obtain ⟨r0, z0, z1, hip, hrm, ⟨s5, A5, n5, c5, p5, i5⟩, ⟨s10, A10, n10, c10, p10, i10⟩, ⟨s11, A11, n11, c11, p11, i11⟩, ⟨s12, A12, n12, c12, p12, i12⟩, ⟨s13, A13, n13, c13, p13, i13⟩, p6, hW⟩ := hrel.out
      have HP := Lib.hid hip
      have L0 := LM.out.le_abs hip.bound0
      have L1 := LM.out.le_abs hip.bound1
      have LR0 : Lim 1048576 (r0 : Int) := LM.out.le_abs (by have := hip.le; omega)
      have LR1 : Lim 1048576 (r1 : Int) := LM.out.le_abs (by omega)
      have l10 := i10.len LR0
      have l11 := i11.len LR1
      have l12 := i12.len L0
      have l13 := i13.len L1
      have l5 := i5.len LM.out
      clear hrel hip
      
      
      by_cases h0 : r1 = 0
      · subst h0
        have hT := HP.out.fin
        subst hT
        have hmz : (m : Int) ≠ 0 := by omega
        obtain ⟨o11_0, o11_1⟩ := p11.cells1
        go_wp2_with fail
        refine (sign_is 0 _ i11.any rfl).mono ?_
        rintro e Xj1 ⟨rfl, dXj1⟩
        have zXj1 := dXj1.size
        have lXj1_p5 := p5.lt
        have lXj1_p6 := p6.lt
        have lXj1_p10 := p10.lt
        have lXj1_p11 := p11.lt
        have lXj1_p12 := p12.lt
        have lXj1_p13 := p13.lt
        (replace p5 := p5.call dXj1); (replace p6 := p6.call dXj1); (replace p10 := p10.call dXj1); (replace p11 := p11.call dXj1); (replace p12 := p12.call dXj1); (replace p13 := p13.call dXj1); (replace i5 := i5.call dXj1); (replace i10 := i10.call dXj1); (replace i11 := i11.call dXj1); (replace i12 := i12.call dXj1); (replace i13 := i13.call dXj1)
        replace hW := bthen hW dXj1
        clear o11_0 o11_1
        obtain ⟨o12_0, o12_1⟩ := p12.cells1
        obtain ⟨o5_0, o5_1⟩ := p5.cells1
        go_wp2_with fail
        refine (divMod_ne _ i12.any i5.any (by omega) (by omega) hmz).mono ?_
        rintro e Xj2 ⟨s17, A17, n17, c17, s18, A18, n18, c18, rfl, i17, i18, dXj2⟩
        have zXj2 := dXj2.size
        have lXj2_p5 := p5.lt
        have lXj2_p6 := p6.lt
        have lXj2_p10 := p10.lt
        have lXj2_p11 := p11.lt
        have lXj2_p12 := p12.lt
        have lXj2_p13 := p13.lt
        (replace p5 := p5.call dXj2); (replace p6 := p6.call dXj2); (replace p10 := p10.call dXj2); (replace p11 := p11.call dXj2); (replace p12 := p12.call dXj2); (replace p13 := p13.call dXj2); (replace i5 := i5.call dXj2); (replace i10 := i10.call dXj2); (replace i11 := i11.call dXj2); (replace i12 := i12.call dXj2); (replace i13 := i13.call dXj2)
        replace hW := bthen hW dXj2
        clear o12_0 o12_1 o5_0 o5_1
        obtain ⟨Xj3a, hXj3a⟩ : ∃ Y, Y = Xj2.alloc (.cells #[.bool s17, .slice A17 n17 c17] 24) := ⟨_, rfl⟩
        have dbXj3a : Below Xj2.heap.size Xj2 Xj3a := by rw [hXj3a]; exact bone _ _
        have eXj3a : Xj2.heap.size = Xj2.heap.size := by first | rfl | (rw [rfl]; simp)
        have p17 : Pr Xj3a (Xj2.heap.size) s17 A17 n17 c17 := by rw [← eXj3a, hXj3a]; exact Pr.new _ _ _ _ _
        (replace p5 := p5.call dbXj3a); (replace p6 := p6.call dbXj3a); (replace p10 := p10.call dbXj3a); (replace p11 := p11.call dbXj3a); (replace p12 := p12.call dbXj3a); (replace p13 := p13.call dbXj3a); (replace i5 := i5.call dbXj3a); (replace i10 := i10.call dbXj3a); (replace i11 := i11.call dbXj3a); (replace i12 := i12.call dbXj3a); (replace i13 := i13.call dbXj3a); (replace i17 := i17.call dbXj3a); (replace i18 := i18.call dbXj3a)
        replace hW := bthen hW dbXj3a
        obtain ⟨Xj3, hXj3⟩ : ∃ Y, Y = Xj3a.alloc (.cells #[.bool s18, .slice A18 n18 c18] 24) := ⟨_, rfl⟩
        have dbXj3 : Below Xj3a.heap.size Xj3a Xj3 := by rw [hXj3]; exact bone _ _
        have eXj3 : Xj3a.heap.size = Xj2.heap.size + 1 := by first | rfl | (rw [hXj3a]; simp)
        have p18 : Pr Xj3 (Xj2.heap.size + 1) s18 A18 n18 c18 := by rw [← eXj3, hXj3]; exact Pr.new _ _ _ _ _
        (replace p5 := p5.call dbXj3); (replace p6 := p6.call dbXj3); (replace p10 := p10.call dbXj3); (replace p11 := p11.call dbXj3); (replace p12 := p12.call dbXj3); (replace p13 := p13.call dbXj3); (replace i5 := i5.call dbXj3); (replace i10 := i10.call dbXj3); (replace i11 := i11.call dbXj3); (replace i12 := i12.call dbXj3); (replace i13 := i13.call dbXj3); (replace p17 := p17.call dbXj3); (replace i17 := i17.call dbXj3); (replace i18 := i18.call dbXj3)
        replace hW := bthen hW dbXj3
        go_upto_region 10 with (fail)
        rw [← hXj3a, ← hXj3]
        clear eXj3 hXj3 dbXj3 eXj3a hXj3a dbXj3a
        generalize Xj2.heap.size = g17 at *
        obtain ⟨a0, a1⟩ := p18.cells1
        obtain ⟨q0, q1, f0, f1, k0, k1⟩ := p6.all (.bool s18) (.slice A18 n18 c18)
        go_wp2
        ((try simp only [Exit.inBlock, Exit.then]); refine bodyPost_ret (by simp [results, Tryd.results77, go_sem, k0, k1]; try rfl) rfl ?_)
        exact RetInt.stored i18 p6 hW (by omega)
      · have HS := Lib.hid (HP.out.step h0 hrm)
        have hz1 : (r1 : Int) ≠ 0 := by omega
        obtain ⟨o11_0, o11_1⟩ := p11.cells1
        go_wp2_with fail
        refine (sign_is 1 _ i11.any (Int.sign_eq_one_of_pos (by omega))).mono ?_
        rintro e Xj1 ⟨rfl, dXj1⟩
        have zXj1 := dXj1.size
        have lXj1_p5 := p5.lt
        have lXj1_p6 := p6.lt
        have lXj1_p10 := p10.lt
        have lXj1_p11 := p11.lt
        have lXj1_p12 := p12.lt
        have lXj1_p13 := p13.lt
        (replace p5 := p5.call dXj1); (replace p6 := p6.call dXj1); (replace p10 := p10.call dXj1); (replace p11 := p11.call dXj1); (replace p12 := p12.call dXj1); (replace p13 := p13.call dXj1); (replace i5 := i5.call dXj1); (replace i10 := i10.call dXj1); (replace i11 := i11.call dXj1); (replace i12 := i12.call dXj1); (replace i13 := i13.call dXj1)
        replace hW := bthen hW dXj1
        clear o11_0 o11_1
        obtain ⟨o10_0, o10_1⟩ := p10.cells1
        obtain ⟨o11_0, o11_1⟩ := p11.cells1
        go_wp2_with fail
        refine (divMod_ne _ i10.any i11.any (by omega) (by omega) hz1).mono ?_
        rintro e Xj2 ⟨s14, A14, n14, c14, s15, A15, n15, c15, rfl, i14, i15, dXj2⟩
        have zXj2 := dXj2.size
        have lXj2_p5 := p5.lt
        have lXj2_p6 := p6.lt
        have lXj2_p10 := p10.lt
        have lXj2_p11 := p11.lt
        have lXj2_p12 := p12.lt
        have lXj2_p13 := p13.lt
        (replace p5 := p5.call dXj2); (replace p6 := p6.call dXj2); (replace p10 := p10.call dXj2); (replace p11 := p11.call dXj2); (replace p12 := p12.call dXj2); (replace p13 := p13.call dXj2); (replace i5 := i5.call dXj2); (replace i10 := i10.call dXj2); (replace i11 := i11.call dXj2); (replace i12 := i12.call dXj2); (replace i13 := i13.call dXj2)
        replace hW := bthen hW dXj2
        clear o10_0 o10_1 o11_0 o11_1
        rw [nat_fdiv] at i14
        rw [nat_fmod] at i15
        obtain ⟨Xj3a, hXj3a⟩ : ∃ Y, Y = Xj2.alloc (.cells #[.bool s14, .slice A14 n14 c14] 24) := ⟨_, rfl⟩
        have dbXj3a : Below Xj2.heap.size Xj2 Xj3a := by rw [hXj3a]; exact bone _ _
        have eXj3a : Xj2.heap.size = Xj2.heap.size := by first | rfl | (rw [rfl]; simp)
        have p14 : Pr Xj3a (Xj2.heap.size) s14 A14 n14 c14 := by rw [← eXj3a, hXj3a]; exact Pr.new _ _ _ _ _
        (replace p5 := p5.call dbXj3a); (replace p6 := p6.call dbXj3a); (replace p10 := p10.call dbXj3a); (replace p11 := p11.call dbXj3a); (replace p12 := p12.call dbXj3a); (replace p13 := p13.call dbXj3a); (replace i5 := i5.call dbXj3a); (replace i10 := i10.call dbXj3a); (replace i11 := i11.call dbXj3a); (replace i12 := i12.call dbXj3a); (replace i13 := i13.call dbXj3a); (replace i14 := i14.call dbXj3a); (replace i15 := i15.call dbXj3a)
        replace hW := bthen hW dbXj3a
        obtain ⟨Xj3, hXj3⟩ : ∃ Y, Y = Xj3a.alloc (.cells #[.bool s15, .slice A15 n15 c15] 24) := ⟨_, rfl⟩
        have dbXj3 : Below Xj3a.heap.size Xj3a Xj3 := by rw [hXj3]; exact bone _ _
        have eXj3 : Xj3a.heap.size = Xj2.heap.size + 1 := by first | rfl | (rw [hXj3a]; simp)
        have p15 : Pr Xj3 (Xj2.heap.size + 1) s15 A15 n15 c15 := by rw [← eXj3, hXj3]; exact Pr.new _ _ _ _ _
        (replace p5 := p5.call dbXj3); (replace p6 := p6.call dbXj3); (replace p10 := p10.call dbXj3); (replace p11 := p11.call dbXj3); (replace p12 := p12.call dbXj3); (replace p13 := p13.call dbXj3); (replace i5 := i5.call dbXj3); (replace i10 := i10.call dbXj3); (replace i11 := i11.call dbXj3); (replace i12 := i12.call dbXj3); (replace i13 := i13.call dbXj3); (replace p14 := p14.call dbXj3); (replace i14 := i14.call dbXj3); (replace i15 := i15.call dbXj3)
        replace hW := bthen hW dbXj3
        go_upto_region 7 with (fail)
        rw [← hXj3a, ← hXj3]
        clear eXj3 hXj3 dbXj3 eXj3a hXj3a dbXj3a
        generalize Xj2.heap.size = g14 at *
        go_upto_region 7 with (fail)
        go_cut [] (fun wz => Hid (Bx wz (w.heap.size + 1 + 1) ((m : Int)) ∧ Pr wz (w.heap.size + 1 + 1 + 1) false none 0 0 ∧ Bx wz (g10) ((r1 : Int)) ∧ Bx wz (g11) (((r0 % r1 : Nat) : Int)) ∧ Bx wz (g12) (z0) ∧ Bx wz (g12 + 1) (z1) ∧ Bx wz (g14) (((r0 / r1 : Nat) : Int)) ∧ Bx wz (g14 + 1) (((r0 % r1 : Nat) : Int)) ∧ Below w.heap.size w wz))
        case first =>
          have hS := hW
          have d0 := bdrew Xj3
          (replace i5 := i5.call d0); (replace i10 := i10.call d0); (replace i11 := i11.call d0); (replace i12 := i12.call d0); (replace i13 := i13.call d0); (replace i14 := i14.call d0); (replace i15 := i15.call d0); (replace p5 := p5.call d0); (replace p6 := p6.call d0); (replace p10 := p10.call d0); (replace p11 := p11.call d0); (replace p12 := p12.call d0); (replace p13 := p13.call d0); (replace p14 := p14.call d0); (replace p15 := p15.call d0)
          replace hS := bthen hS d0
          clear d0
          refine wp_region_held_drew (S := fun _ => True) (by kernel_rfl) trivial (fun _ => ?_)
          generalize Xj3.drew = u0 at *
          refine wpAnyH_ready (rs := [0, 1]) (by kernel_rfl) (by simp) ?_
          refine AllReadyH.cons (o := ⟨_, _, _, _, _, _⟩) rfl (fun K hK => ?_) (AllReadyH.cons (o := ⟨_, _, _, _, _, _⟩) rfl (fun K hK => ?_) AllReadyH.nil)
          · have c0 := p11.cell0
            have c1 := p11.cell1
            go_simp
            refine hK.out _ _ trivial (fun _ => ?_)
            clear hK K c0 c1
            (try simp only [Act.put, List.setIfInBounds_toArray, List.set_cons_zero, List.set_cons_succ])
            refine wpAnyH_ready (rs := [1, 2]) (by kernel_rfl) (by simp) ?_
            refine AllReadyH.cons (o := ⟨_, _, _, _, _, _⟩) rfl (fun K hK => ?_) (AllReadyH.cons (o := ⟨_, _, _, _, _, _⟩) rfl (fun K hK => ?_) AllReadyH.nil)
            · have c0 := p15.cell0
              have c1 := p15.cell1
              go_simp
              refine hK.out _ _ trivial (fun _ => ?_)
              clear hK K c0 c1
              (try simp only [Act.put, List.setIfInBounds_toArray, List.set_cons_zero, List.set_cons_succ])
              refine wpAnyH_ready (rs := [2]) (by kernel_rfl) (by simp) ?_
              refine AllReadyH.cons (o := ⟨_, _, _, _, _, _⟩) rfl (fun K hK => ?_) AllReadyH.nil
              obtain ⟨q0, q1, f0, f1, k0, k1⟩ := p10.all (.bool s11) (.slice A11 n11 c11)
              go_simp
              refine hK.out _ _ trivial (fun _ => ?_)
              clear hK K q0 q1 f0 f1 k0 k1
              replace hS := below_stored hS (g := g10) (by omega) (.bool s11) (.slice A11 n11 c11)
              replace i5 := i5.stored p10 (.bool s11) (.slice A11 n11 c11)
              replace i10 := i10.stored p10 (.bool s11) (.slice A11 n11 c11)
              replace i11 := i11.stored p10 (.bool s11) (.slice A11 n11 c11)
              replace i12 := i12.stored p10 (.bool s11) (.slice A11 n11 c11)
              replace i13 := i13.stored p10 (.bool s11) (.slice A11 n11 c11)
              replace i14 := i14.stored p10 (.bool s11) (.slice A11 n11 c11)
              replace i15 := i15.stored p10 (.bool s11) (.slice A11 n11 c11)
              replace p5 := p5.far (g' := g10) (by omega) (.bool s11) (.slice A11 n11 c11)
              replace p6 := p6.far (g' := g10) (by omega) (.bool s11) (.slice A11 n11 c11)
              replace p11 := p11.far (g' := g10) (by omega) (.bool s11) (.slice A11 n11 c11)
              replace p12 := p12.far (g' := g10) (by omega) (.bool s11) (.slice A11 n11 c11)
              replace p13 := p13.far (g' := g10) (by omega) (.bool s11) (.slice A11 n11 c11)
              replace p14 := p14.far (g' := g10) (by omega) (.bool s11) (.slice A11 n11 c11)
              replace p15 := p15.far (g' := g10) (by omega) (.bool s11) (.slice A11 n11 c11)
              replace p10 := p10.stored (s' := s11) (A' := A11) (n' := n11) (c' := c11)
              (try simp only [Act.put, List.setIfInBounds_toArray, List.set_cons_zero, List.set_cons_succ])
              refine wpAnyH_ready (rs := [3]) (by kernel_rfl) (by simp) ?_
              refine AllReadyH.cons (o := ⟨_, _, _, _, _, _⟩) rfl (fun K hK => ?_) AllReadyH.nil
              obtain ⟨q0, q1, f0, f1, k0, k1⟩ := p11.all (.bool s15) (.slice A15 n15 c15)
              go_simp
              refine hK.out _ _ trivial (fun _ => ?_)
              clear hK K q0 q1 f0 f1 k0 k1
              replace hS := below_stored hS (g := g11) (by omega) (.bool s15) (.slice A15 n15 c15)
              replace i5 := i5.stored p11 (.bool s15) (.slice A15 n15 c15)
              replace i10 := i10.stored p11 (.bool s15) (.slice A15 n15 c15)
              replace i11 := i11.stored p11 (.bool s15) (.slice A15 n15 c15)
              replace i12 := i12.stored p11 (.bool s15) (.slice A15 n15 c15)
              replace i13 := i13.stored p11 (.bool s15) (.slice A15 n15 c15)
              replace i14 := i14.stored p11 (.bool s15) (.slice A15 n15 c15)
              replace i15 := i15.stored p11 (.bool s15) (.slice A15 n15 c15)
              replace p5 := p5.far (g' := g11) (by omega) (.bool s15) (.slice A15 n15 c15)
              replace p6 := p6.far (g' := g11) (by omega) (.bool s15) (.slice A15 n15 c15)
              replace p10 := p10.far (g' := g11) (by omega) (.bool s15) (.slice A15 n15 c15)
              replace p12 := p12.far (g' := g11) (by omega) (.bool s15) (.slice A15 n15 c15)
              replace p13 := p13.far (g' := g11) (by omega) (.bool s15) (.slice A15 n15 c15)
              replace p14 := p14.far (g' := g11) (by omega) (.bool s15) (.slice A15 n15 c15)
              replace p15 := p15.far (g' := g11) (by omega) (.bool s15) (.slice A15 n15 c15)
              replace p11 := p11.stored (s' := s15) (A' := A15) (n' := n15) (c' := c15)
              (try simp only [Act.put, List.setIfInBounds_toArray, List.set_cons_zero, List.set_cons_succ])
              refine wpAnyH_done (by kernel_rfl) ?_ _
              go_wp2_with fail
              go_meet
              case rel => exact ⟨⟨_, _, _, _, p5, i5⟩, p6, ⟨_, _, _, _, p10, i11⟩, ⟨_, _, _, _, p11, i15⟩, ⟨_, _, _, _, p12, i12⟩, ⟨_, _, _, _, p13, i13⟩, ⟨_, _, _, _, p14, i14⟩, ⟨_, _, _, _, p15, i15⟩, hS⟩
            · obtain ⟨q0, q1, f0, f1, k0, k1⟩ := p10.all (.bool s11) (.slice A11 n11 c11)
              go_simp
              refine hK.out _ _ trivial (fun _ => ?_)
              clear hK K q0 q1 f0 f1 k0 k1
              replace hS := below_stored hS (g := g10) (by omega) (.bool s11) (.slice A11 n11 c11)
              replace i5 := i5.stored p10 (.bool s11) (.slice A11 n11 c11)
              replace i10 := i10.stored p10 (.bool s11) (.slice A11 n11 c11)
              replace i11 := i11.stored p10 (.bool s11) (.slice A11 n11 c11)
              replace i12 := i12.stored p10 (.bool s11) (.slice A11 n11 c11)
              replace i13 := i13.stored p10 (.bool s11) (.slice A11 n11 c11)
              replace i14 := i14.stored p10 (.bool s11) (.slice A11 n11 c11)
              replace i15 := i15.stored p10 (.bool s11) (.slice A11 n11 c11)
              replace p5 := p5.far (g' := g10) (by omega) (.bool s11) (.slice A11 n11 c11)
              replace p6 := p6.far (g' := g10) (by omega) (.bool s11) (.slice A11 n11 c11)
              replace p11 := p11.far (g' := g10) (by omega) (.bool s11) (.slice A11 n11 c11)
              replace p12 := p12.far (g' := g10) (by omega) (.bool s11) (.slice A11 n11 c11)
              replace p13 := p13.far (g' := g10) (by omega) (.bool s11) (.slice A11 n11 c11)
              replace p14 := p14.far (g' := g10) (by omega) (.bool s11) (.slice A11 n11 c11)
              replace p15 := p15.far (g' := g10) (by omega) (.bool s11) (.slice A11 n11 c11)
              replace p10 := p10.stored (s' := s11) (A' := A11) (n' := n11) (c' := c11)
              (try simp only [Act.put, List.setIfInBounds_toArray, List.set_cons_zero, List.set_cons_succ])
              refine wpAnyH_ready (rs := [1]) (by kernel_rfl) (by simp) ?_
              refine AllReadyH.cons (o := ⟨_, _, _, _, _, _⟩) rfl (fun K hK => ?_) AllReadyH.nil
              have c0 := p15.cell0
              have c1 := p15.cell1
              go_simp
              refine hK.out _ _ trivial (fun _ => ?_)
              clear hK K c0 c1
              (try simp only [Act.put, List.setIfInBounds_toArray, List.set_cons_zero, List.set_cons_succ])
              refine wpAnyH_ready (rs := [3]) (by kernel_rfl) (by simp) ?_
              refine AllReadyH.cons (o := ⟨_, _, _, _, _, _⟩) rfl (fun K hK => ?_) AllReadyH.nil
              obtain ⟨q0, q1, f0, f1, k0, k1⟩ := p11.all (.bool s15) (.slice A15 n15 c15)
              go_simp
              refine hK.out _ _ trivial (fun _ => ?_)
              clear hK K q0 q1 f0 f1 k0 k1
              replace hS := below_stored hS (g := g11) (by omega) (.bool s15) (.slice A15 n15 c15)
              replace i5 := i5.stored p11 (.bool s15) (.slice A15 n15 c15)
              replace i10 := i10.stored p11 (.bool s15) (.slice A15 n15 c15)
              replace i11 := i11.stored p11 (.bool s15) (.slice A15 n15 c15)
              replace i12 := i12.stored p11 (.bool s15) (.slice A15 n15 c15)
              replace i13 := i13.stored p11 (.bool s15) (.slice A15 n15 c15)
              replace i14 := i14.stored p11 (.bool s15) (.slice A15 n15 c15)
              replace i15 := i15.stored p11 (.bool s15) (.slice A15 n15 c15)
              replace p5 := p5.far (g' := g11) (by omega) (.bool s15) (.slice A15 n15 c15)
              replace p6 := p6.far (g' := g11) (by omega) (.bool s15) (.slice A15 n15 c15)
              replace p10 := p10.far (g' := g11) (by omega) (.bool s15) (.slice A15 n15 c15)
              replace p12 := p12.far (g' := g11) (by omega) (.bool s15) (.slice A15 n15 c15)
              replace p13 := p13.far (g' := g11) (by omega) (.bool s15) (.slice A15 n15 c15)
              replace p14 := p14.far (g' := g11) (by omega) (.bool s15) (.slice A15 n15 c15)
              replace p15 := p15.far (g' := g11) (by omega) (.bool s15) (.slice A15 n15 c15)
              replace p11 := p11.stored (s' := s15) (A' := A15) (n' := n15) (c' := c15)
              (try simp only [Act.put, List.setIfInBounds_toArray, List.set_cons_zero, List.set_cons_succ])
              refine wpAnyH_done (by kernel_rfl) ?_ _
              go_wp2_with fail
              go_meet
              case rel => exact ⟨⟨_, _, _, _, p5, i5⟩, p6, ⟨_, _, _, _, p10, i11⟩, ⟨_, _, _, _, p11, i15⟩, ⟨_, _, _, _, p12, i12⟩, ⟨_, _, _, _, p13, i13⟩, ⟨_, _, _, _, p14, i14⟩, ⟨_, _, _, _, p15, i15⟩, hS⟩
          · have c0 := p15.cell0
            have c1 := p15.cell1
            go_simp
            refine hK.out _ _ trivial (fun _ => ?_)
            clear hK K c0 c1
            (try simp only [Act.put, List.setIfInBounds_toArray, List.set_cons_zero, List.set_cons_succ])
            refine wpAnyH_ready (rs := [0]) (by kernel_rfl) (by simp) ?_
            refine AllReadyH.cons (o := ⟨_, _, _, _, _, _⟩) rfl (fun K hK => ?_) AllReadyH.nil
            have c0 := p11.cell0
            have c1 := p11.cell1
            go_simp
            refine hK.out _ _ trivial (fun _ => ?_)
            clear hK K c0 c1
            (try simp only [Act.put, List.setIfInBounds_toArray, List.set_cons_zero, List.set_cons_succ])
            refine wpAnyH_ready (rs := [2]) (by kernel_rfl) (by simp) ?_
            refine AllReadyH.cons (o := ⟨_, _, _, _, _, _⟩) rfl (fun K hK => ?_) AllReadyH.nil
            obtain ⟨q0, q1, f0, f1, k0, k1⟩ := p10.all (.bool s11) (.slice A11 n11 c11)
            go_simp
            refine hK.out _ _ trivial (fun _ => ?_)
            clear hK K q0 q1 f0 f1 k0 k1
            replace hS := below_stored hS (g := g10) (by omega) (.bool s11) (.slice A11 n11 c11)
            replace i5 := i5.stored p10 (.bool s11) (.slice A11 n11 c11)
            replace i10 := i10.stored p10 (.bool s11) (.slice A11 n11 c11)
            replace i11 := i11.stored p10 (.bool s11) (.slice A11 n11 c11)
            replace i12 := i12.stored p10 (.bool s11) (.slice A11 n11 c11)
            replace i13 := i13.stored p10 (.bool s11) (.slice A11 n11 c11)
            replace i14 := i14.stored p10 (.bool s11) (.slice A11 n11 c11)
            replace i15 := i15.stored p10 (.bool s11) (.slice A11 n11 c11)
            replace p5 := p5.far (g' := g10) (by omega) (.bool s11) (.slice A11 n11 c11)
            replace p6 := p6.far (g' := g10) (by omega) (.bool s11) (.slice A11 n11 c11)
            replace p11 := p11.far (g' := g10) (by omega) (.bool s11) (.slice A11 n11 c11)
            replace p12 := p12.far (g' := g10) (by omega) (.bool s11) (.slice A11 n11 c11)
            replace p13 := p13.far (g' := g10) (by omega) (.bool s11) (.slice A11 n11 c11)
            replace p14 := p14.far (g' := g10) (by omega) (.bool s11) (.slice A11 n11 c11)
            replace p15 := p15.far (g' := g10) (by omega) (.bool s11) (.slice A11 n11 c11)
            replace p10 := p10.stored (s' := s11) (A' := A11) (n' := n11) (c' := c11)
            (try simp only [Act.put, List.setIfInBounds_toArray, List.set_cons_zero, List.set_cons_succ])
            refine wpAnyH_ready (rs := [3]) (by kernel_rfl) (by simp) ?_
            refine AllReadyH.cons (o := ⟨_, _, _, _, _, _⟩) rfl (fun K hK => ?_) AllReadyH.nil
            obtain ⟨q0, q1, f0, f1, k0, k1⟩ := p11.all (.bool s15) (.slice A15 n15 c15)
            go_simp
            refine hK.out _ _ trivial (fun _ => ?_)
            clear hK K q0 q1 f0 f1 k0 k1
            replace hS := below_stored hS (g := g11) (by omega) (.bool s15) (.slice A15 n15 c15)
            replace i5 := i5.stored p11 (.bool s15) (.slice A15 n15 c15)
            replace i10 := i10.stored p11 (.bool s15) (.slice A15 n15 c15)
            replace i11 := i11.stored p11 (.bool s15) (.slice A15 n15 c15)
            replace i12 := i12.stored p11 (.bool s15) (.slice A15 n15 c15)
            replace i13 := i13.stored p11 (.bool s15) (.slice A15 n15 c15)
            replace i14 := i14.stored p11 (.bool s15) (.slice A15 n15 c15)
            replace i15 := i15.stored p11 (.bool s15) (.slice A15 n15 c15)
            replace p5 := p5.far (g' := g11) (by omega) (.bool s15) (.slice A15 n15 c15)
            replace p6 := p6.far (g' := g11) (by omega) (.bool s15) (.slice A15 n15 c15)
            replace p10 := p10.far (g' := g11) (by omega) (.bool s15) (.slice A15 n15 c15)
            replace p12 := p12.far (g' := g11) (by omega) (.bool s15) (.slice A15 n15 c15)
            replace p13 := p13.far (g' := g11) (by omega) (.bool s15) (.slice A15 n15 c15)
            replace p14 := p14.far (g' := g11) (by omega) (.bool s15) (.slice A15 n15 c15)
            replace p15 := p15.far (g' := g11) (by omega) (.bool s15) (.slice A15 n15 c15)
            replace p11 := p11.stored (s' := s15) (A' := A15) (n' := n15) (c' := c15)
            (try simp only [Act.put, List.setIfInBounds_toArray, List.set_cons_zero, List.set_cons_succ])
            refine wpAnyH_done (by kernel_rfl) ?_ _
            go_wp2_with fail
            go_meet
            case rel => exact ⟨⟨_, _, _, _, p5, i5⟩, p6, ⟨_, _, _, _, p10, i11⟩, ⟨_, _, _, _, p11, i15⟩, ⟨_, _, _, _, p12, i12⟩, ⟨_, _, _, _, p13, i13⟩, ⟨_, _, _, _, p14, i14⟩, ⟨_, _, _, _, p15, i15⟩, hS⟩
        case rest =>
          clear hW p5 p6 p10 p11 p12 p13 p14 p15 i5 i10 i11 i12 i13 i14 i15
          have HB := hcut
          obtain ⟨⟨s5, A5, n5, c5, p5, i5⟩, p6, ⟨s10, A10, n10, c10, p10, i10⟩, ⟨s11, A11, n11, c11, p11, i11⟩, ⟨s12, A12, n12, c12, p12, i12⟩, ⟨s13, A13, n13, c13, p13, i13⟩, ⟨s14, A14, n14, c14, p14, i14⟩, ⟨s15, A15, n15, c15, p15, i15⟩, hW⟩ := HB.out
          obtain ⟨Xj4, rfl⟩ : ∃ X : World, X = wc := ⟨_, rfl⟩
          clear HB
          have LQ : Lim 1048577 ((r0 / r1 : Nat) : Int) := (LR0.mono (show 1048576 ≤ 1048577 by omega)).le_abs' (by simp; exact Nat.div_le_self _ _)
          have l14 := i14.len LQ
          have l12 := i12.len L0
          have l13 := i13.len L1
          have LP := Lib.hid (LQ.mul L1)
          go_upto_region 8 with (fail)
          refine wp_region_late (S := fun w' => Below Xj4.heap.size Xj4 w') (late := fun k => k == 6 || k == 7) (by kernel_rfl) ?_
          have hS : Below Xj4.heap.size Xj4 Xj4.drew := bdrew Xj4
          generalize Xj4.drew = u0 at hS ⊢
          refine wpAnyL_take (i := 0) (oi := ⟨_, _, _, _, _, _⟩) (v := ?_) (by intro k hk; simp at hk; simp; omega) rfl (by kernel_rfl) (by kernel_rfl) (by kernel_rfl) (by kernel_rfl) (fun _ _ _ h => h) (Or.inl ⟨by rfl, ?_⟩) hS ?_
          rotate_left
          · intro w' hS'; have p' := p13.call hS'; have c0 := p'.cell0; have c1 := p'.cell1; (first | (go_simp; done) | (go_simp; with_reducible rfl) | with_reducible rfl)
          (try simp only [Act.put, List.setIfInBounds_toArray, List.set_cons_zero, List.set_cons_succ])
          refine wpAnyL_take (i := 1) (oi := ⟨_, _, _, _, _, _⟩) (v := ?_) (by intro k hk; simp at hk; simp; omega) rfl (by kernel_rfl) (by kernel_rfl) (by kernel_rfl) (by kernel_rfl) (fun _ _ _ h => h) (Or.inl ⟨by rfl, ?_⟩) hS ?_
          rotate_left
          · intro w' hS'; have p' := p12.call hS'; have c0 := p'.cell0; have c1 := p'.cell1; (first | (go_simp; done) | (go_simp; with_reducible rfl) | with_reducible rfl)
          (try simp only [Act.put, List.setIfInBounds_toArray, List.set_cons_zero, List.set_cons_succ])
          refine wpAnyL_take (i := 2) (oi := ⟨_, _, _, _, _, _⟩) (v := ?_) (by intro k hk; simp at hk; simp; omega) rfl (by kernel_rfl) (by kernel_rfl) (by kernel_rfl) (by kernel_rfl) (fun _ _ _ h => h) (Or.inl ⟨by rfl, ?_⟩) hS ?_
          rotate_left
          · intro w' hS'; have p' := p14.call hS'; have c0 := p'.cell0; have c1 := p'.cell1; (first | (go_simp; done) | (go_simp; with_reducible rfl) | with_reducible rfl)
          (try simp only [Act.put, List.setIfInBounds_toArray, List.set_cons_zero, List.set_cons_succ])
          refine wpAnyL_take (i := 3) (oi := ⟨_, _, _, _, _, _⟩) (v := ?_) (by intro k hk; simp at hk; simp; omega) rfl (by kernel_rfl) (by kernel_rfl) (by kernel_rfl) (by kernel_rfl) (fun _ _ _ h => h) (Or.inl ⟨by rfl, ?_⟩) hS ?_
          rotate_left
          · intro w' hS'; have p' := p13.call hS'; have c0 := p'.cell0; have c1 := p'.cell1; (first | (go_simp; done) | (go_simp; with_reducible rfl) | with_reducible rfl)
          (try simp only [Act.put, List.setIfInBounds_toArray, List.set_cons_zero, List.set_cons_succ])
          refine wpAnyL_ready (rs := [4]) (by kernel_rfl) (by simp) ?_
          refine AllReadyL.cons (o := ⟨_, _, _, _, _, _⟩) rfl (fun K hK => ?_) AllReadyL.nil
          go_simp
          refine (mul_any _ (i14.call hS).any (i13.call hS).any (by omega) (by omega)).mono ?_
          rintro e u1 ⟨t1, B1, m1, e1, rfl, j1, d1⟩
          replace hS := bthen hS d1
          first | (with_reducible refine hK.out _ _ (SL.of hS) ?_) | (go_wp2_with fail; with_reducible refine hK.out _ _ (SL.of hS) ?_)
          clear hK K
          (try simp only [Act.put, List.setIfInBounds_toArray, List.set_cons_zero, List.set_cons_succ])
          refine wpAnyL_ready (rs := [5]) (by kernel_rfl) (by simp) ?_
          refine AllReadyL.cons (o := ⟨_, _, _, _, _, _⟩) rfl (fun K hK => ?_) AllReadyL.nil
          go_simp
          refine (sub_any _ (i12.call hS).any j1.any (by omega) (Nat.le_trans (j1.len LP.out) (by omega))).mono ?_
          rintro e u2 ⟨t2, B2, m2, e2, rfl, j2, d2⟩
          replace hS := bthen hS d2
          (replace j1 := j1.call d2)
          first | (with_reducible refine hK.out _ _ (SL.of hS) ?_) | (go_wp2_with fail; with_reducible refine hK.out _ _ (SL.of hS) ?_)
          clear hK K
          (try simp only [Act.put, List.setIfInBounds_toArray, List.set_cons_zero, List.set_cons_succ])
          refine wpAnyL_ready (rs := [6]) (by kernel_rfl) (by simp) ?_
          refine AllReadyL.cons (o := ⟨_, _, _, _, _, _⟩) rfl (fun K hK => ?_) AllReadyL.nil
          replace hW := bthen hW hS
          (replace i5 := i5.call hS); (replace i10 := i10.call hS); (replace i11 := i11.call hS); (replace i12 := i12.call hS); (replace i13 := i13.call hS); (replace i14 := i14.call hS); (replace i15 := i15.call hS); (replace p5 := p5.call hS); (replace p6 := p6.call hS); (replace p10 := p10.call hS); (replace p11 := p11.call hS); (replace p12 := p12.call hS); (replace p13 := p13.call hS); (replace p14 := p14.call hS); (replace p15 := p15.call hS)
          clear hS
          obtain ⟨q0, q1, f0, f1, k0, k1⟩ := p12.all (.bool s13) (.slice A13 n13 c13)
          go_simp
          refine hK.out _ _ (SL.done rfl) ?_
          clear hK K q0 q1 f0 f1 k0 k1
          replace hW := below_stored hW (g := g12) (by omega) (.bool s13) (.slice A13 n13 c13)
          replace j1 := j1.stored p12 (.bool s13) (.slice A13 n13 c13)
          replace j2 := j2.stored p12 (.bool s13) (.slice A13 n13 c13)
          replace i5 := i5.stored p12 (.bool s13) (.slice A13 n13 c13)
          replace i10 := i10.stored p12 (.bool s13) (.slice A13 n13 c13)
          replace i11 := i11.stored p12 (.bool s13) (.slice A13 n13 c13)
          replace i12 := i12.stored p12 (.bool s13) (.slice A13 n13 c13)
          replace i13 := i13.stored p12 (.bool s13) (.slice A13 n13 c13)
          replace i14 := i14.stored p12 (.bool s13) (.slice A13 n13 c13)
          replace i15 := i15.stored p12 (.bool s13) (.slice A13 n13 c13)
          replace p5 := p5.far (g' := g12) (by omega) (.bool s13) (.slice A13 n13 c13)
          replace p6 := p6.far (g' := g12) (by omega) (.bool s13) (.slice A13 n13 c13)
          replace p10 := p10.far (g' := g12) (by omega) (.bool s13) (.slice A13 n13 c13)
          replace p11 := p11.far (g' := g12) (by omega) (.bool s13) (.slice A13 n13 c13)
          replace p13 := p13.far (g' := g12) (by omega) (.bool s13) (.slice A13 n13 c13)
          replace p14 := p14.far (g' := g12) (by omega) (.bool s13) (.slice A13 n13 c13)
          replace p15 := p15.far (g' := g12) (by omega) (.bool s13) (.slice A13 n13 c13)
          replace p12 := p12.stored (s' := s13) (A' := A13) (n' := n13) (c' := c13)
          generalize (u2.setCell ⟨g12, 0, none⟩ (.bool s13)).setCell ⟨g12, 1, none⟩ (.slice A13 n13 c13) = su212 at *
          (try simp only [Act.put, List.setIfInBounds_toArray, List.set_cons_zero, List.set_cons_succ])
          refine wpAnyL_ready (rs := [7]) (by kernel_rfl) (by simp) ?_
          refine AllReadyL.cons (o := ⟨_, _, _, _, _, _⟩) rfl (fun K hK => ?_) AllReadyL.nil
          obtain ⟨q0, q1, f0, f1, k0, k1⟩ := p13.all (.bool t2) (.slice B2 m2 e2)
          go_simp
          refine hK.out _ _ (SL.done rfl) ?_
          clear hK K q0 q1 f0 f1 k0 k1
          replace hW := below_stored hW (g := g12 + 1) (by omega) (.bool t2) (.slice B2 m2 e2)
          replace j1 := j1.stored p13 (.bool t2) (.slice B2 m2 e2)
          replace j2 := j2.stored p13 (.bool t2) (.slice B2 m2 e2)
          replace i5 := i5.stored p13 (.bool t2) (.slice B2 m2 e2)
          replace i10 := i10.stored p13 (.bool t2) (.slice B2 m2 e2)
          replace i11 := i11.stored p13 (.bool t2) (.slice B2 m2 e2)
          replace i12 := i12.stored p13 (.bool t2) (.slice B2 m2 e2)
          replace i13 := i13.stored p13 (.bool t2) (.slice B2 m2 e2)
          replace i14 := i14.stored p13 (.bool t2) (.slice B2 m2 e2)
          replace i15 := i15.stored p13 (.bool t2) (.slice B2 m2 e2)
          replace p5 := p5.far (g' := g12 + 1) (by omega) (.bool t2) (.slice B2 m2 e2)
          replace p6 := p6.far (g' := g12 + 1) (by omega) (.bool t2) (.slice B2 m2 e2)
          replace p10 := p10.far (g' := g12 + 1) (by omega) (.bool t2) (.slice B2 m2 e2)
          replace p11 := p11.far (g' := g12 + 1) (by omega) (.bool t2) (.slice B2 m2 e2)
          replace p12 := p12.far (g' := g12 + 1) (by omega) (.bool t2) (.slice B2 m2 e2)
          replace p14 := p14.far (g' := g12 + 1) (by omega) (.bool t2) (.slice B2 m2 e2)
          replace p15 := p15.far (g' := g12 + 1) (by omega) (.bool t2) (.slice B2 m2 e2)
          replace p13 := p13.stored (s' := t2) (A' := B2) (n' := m2) (c' := e2)
          generalize (su212.setCell ⟨g12 + 1, 0, none⟩ (.bool t2)).setCell ⟨g12 + 1, 1, none⟩ (.slice B2 m2 e2) = ssu21213 at *
          (try simp only [Act.put, List.setIfInBounds_toArray, List.set_cons_zero, List.set_cons_succ])
          refine wpAnyL_done (by kernel_rfl) ?_ _
          go_wp2_with fail
          go_roundg (r0 % r1)
          case rel => exact ⟨r1, z1, _, HS.out, by have := Nat.mod_lt r0 (Nat.pos_of_ne_zero h0); omega, ⟨_, _, _, _, p5, i5⟩, ⟨_, _, _, _, p10, i10⟩, ⟨_, _, _, _, p11, i11⟩, ⟨_, _, _, _, p12, i13⟩, ⟨_, _, _, _, p13, j2⟩, p6, hW⟩
          case measure => exact Nat.mod_lt r0 (Nat.pos_of_ne_zero h0)
end Go.Proofs.YteicjbinginamaaDoor
