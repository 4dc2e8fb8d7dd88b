/- Walks of Pow, of the program and of the reference; BitLen. -/
import Derived.Test.YtociocengfjioaaGreatDoorPowPlain
import Derived.Deep.LoopGhost
namespace Go.Proofs.YtociocengfjioaaGreatDoor
open Go.RowKit
set_option linter.unusedVariables false

/-- the state of the loop of Pow -/
def PowS (w wr : World) (g6 g7 : Nat) (x : Int) (k kk : Nat) : Prop :=
  ∃ s A n c t A' n' c', ∃ r e : Nat, Pr wr g6 s A n c ∧ Pr wr g7 t A' n' c' ∧ CInt wr s A n c (x ^ r) ∧ CInt wr t A' n' c' (x ^ e) ∧ r + e * kk = k ∧ (0 < kk → e ≤ k) ∧ r ≤ k ∧ Pr wr (w.heap.size + 1) false none 0 0 ∧ Below w.heap.size w wr

set_option maxHeartbeats 2000000 in
set_option maxRecDepth 100000 in
theorem pow_bad {s : Bool} {A : Option Addr} {n c : Nat} {k : Int} (w : World) (hk : k < 0 ∨ 64 < k) :
    Calls Tryz.prog 58 #[.agg #[.bool s, .slice A n c], .int .i64 k] w (RetIE w 0 5) := by
  obtain ⟨W, hW, bW, pa, pr⟩ := boxes1 w s A n c
  obtain ⟨q0, q1, f0, f1, k0, k1⟩ := pr.all (.bool false) (.slice none 0 0)
  have fin : ∀ h : True, RetIE w 0 5 (.returned (.tuple #[.agg #[.bool false, .slice none 0 0], .int .i64 5])) ((W.setCell ⟨w.heap.size + 1, 0, none⟩ (.bool false)).setCell ⟨w.heap.size + 1, 1, none⟩ (.slice none 0 0)) :=
    fun _ => ⟨_, _, _, _, rfl, CInt.zero _, below_stored bW (by omega) _ _⟩
  have F := Lib.hid (fin trivial)
  clear fin
  by_cases h0 : k < 0
  · have hd : decide (k < 0) = true := by simp; omega
    go_enter Tryz.func58, Tryz.ntmps58
    go_upto_region 1 with (fail)
    rw [← hW]
    clear hW
    go_wp2
    refine bodyPost_ret (v := .tuple #[.agg #[.bool false, .slice none 0 0], .int .i64 5]) (by simp [results, Tryz.results58, go_sem, k0, k1]) rfl ?_
    exact F.out
  · have hd : decide (k < 0) = false := by simp; omega
    have hd2 : decide ((64 : Int) < k) = true := by simp; omega
    go_enter Tryz.func58, Tryz.ntmps58
    go_upto_region 1 with (fail)
    rw [← hW]
    clear hW
    go_wp2
    refine bodyPost_ret (v := .tuple #[.agg #[.bool false, .slice none 0 0], .int .i64 5]) (by simp [results, Tryz.results58, go_sem, k0, k1]) rfl ?_
    exact F.out

set_option maxHeartbeats 4000000 in
set_option maxRecDepth 100000 in
theorem pow_any {s : Bool} {A : Option Addr} {n c : Nat} {x : Int} {k : Nat} (w : World) (ha : AInt w s A n c x) (hn : n ≤ 1048576) (hk : k ≤ 64) :
    Calls Tryz.prog 58 #[.agg #[.bool s, .slice A n c], .int .i64 k] w (RetIE w (x ^ k) 0) := by
  have hx := ha.sign_eq
  have lx : Lim 1048576 x := ha.lim.mono hn
  have lpow : ∀ r, r ≤ 64 → Lim 67108865 (x ^ r) := fun r hr => (lx.pow r).mono (by have : 1048576 * r ≤ 1048576 * 64 := Nat.mul_le_mul_left _ hr; omega)
  have LP := Lib.hid lpow
  obtain ⟨m, hm, r, HA⟩ := ha.still
  obtain ⟨W, hW, bW, pa, pr⟩ := boxes1 w s A n c
  have HX := Lib.hid hx
  have H1 := Lib.hid (fromInt64_any 1 W (by omega) (by omega))
  have hd : decide ((k : Int) < 0) = false := by simp
  have hd2 : decide ((64 : Int) < (k : Int)) = false := by simp; omega
  clear ha hx lx lpow
  go_enter Tryz.func58, Tryz.ntmps58
  go_upto_region 1 with (fail)
  rw [← hW]
  clear hW
  go_wp2_with fail
  refine H1.out.mono ?_
  rintro e X1 ⟨s1, A1, n1, c1, rfl, i1, d1⟩
  obtain ⟨X2, hX2⟩ : ∃ X2, X2 = X1.alloc (.cells #[.bool s1, .slice A1 n1 c1] 24) := ⟨_, rfl⟩
  have d2 : Below X1.heap.size X1 X2 := by rw [hX2]; exact bone _ _
  have p6 : Pr X2 X1.heap.size s1 A1 n1 c1 := by rw [hX2]; exact Pr.new _ _ _ _ _
  have lt6 := d1.size
  have sz := pr.lt
  (replace pa := pa.call d1); (replace pr := pr.call d1)
  (replace pa := pa.call d2); (replace pr := pr.call d2); (replace i1 := i1.call d2)
  replace bW := bthen (bthen bW d1) d2
  clear H1 d1 d2
  go_upto_region 4 with (fail)
  rw [← hX2]
  have hz6 : X1.heap.size < X2.heap.size := p6.lt
  clear hX2
  generalize X1.heap.size = g6 at *
  have hr2 := r.call bW
  have HC := Lib.hid (fun W h => clone_any (c := m) (A := A) (n := m) (xs := digits x.natAbs) W h (by omega))
  go_cut [7] (fun v wz => Box X2 wz v x)
  case first =>
    refine wp_region_held_drew (S := fun w' => Below X2.heap.size X2 w') (by kernel_rfl) (bdrew X2) (fun hS => ?_)
    have hS : Below X2.heap.size X2 X2.drew := bdrew X2
    generalize X2.drew = u0 at hS ⊢
    refine wpAnyH_take (i := 0) (oi := ⟨_, _, _, _, _, _⟩) (v := ?_) rfl (by kernel_rfl) (by kernel_rfl) (by kernel_rfl) (fun _ _ _ h => h) (Or.inl ⟨by rfl, ?_⟩) hS ?_
    rotate_left
    · intro w' hS'; (first | (go_simp; done) | (go_simp; with_reducible rfl) | with_reducible rfl)
    (try simp only [Act.put, List.setIfInBounds_toArray, List.set_cons_zero, List.set_cons_succ])
    refine wpAnyH_take (i := 1) (oi := ⟨_, _, _, _, _, _⟩) (v := ?_) rfl (by kernel_rfl) (by kernel_rfl) (by kernel_rfl) (fun _ _ _ h => h) (Or.inl ⟨by rfl, ?_⟩) hS ?_
    rotate_left
    · intro w' hS'; have p' := pa.call hS'; have c0 := p'.cell0; have c1 := p'.cell1; (first | (go_simp; done) | (go_simp; with_reducible rfl) | with_reducible rfl)
    (try simp only [Act.put, List.setIfInBounds_toArray, List.set_cons_zero, List.set_cons_succ])
    refine wpAnyH_take (i := 2) (oi := ⟨_, _, _, _, _, _⟩) (v := ?_) rfl (by kernel_rfl) (by kernel_rfl) (by kernel_rfl) (fun _ _ _ h => h) (Or.inl ⟨by rfl, ?_⟩) hS ?_
    rotate_left
    · intro w' hS'; (first | (go_simp; done) | (go_simp; with_reducible rfl) | with_reducible rfl)
    (try simp only [Act.put, List.setIfInBounds_toArray, List.set_cons_zero, List.set_cons_succ])
    refine wpAnyH_take (i := 3) (oi := ⟨_, _, _, _, _, _⟩) (v := ?_) rfl (by kernel_rfl) (by kernel_rfl) (by kernel_rfl) (fun _ _ _ h => h) (Or.inl ⟨by rfl, ?_⟩) hS ?_
    rotate_left
    · intro w' hS'; have p' := pa.call hS'; have c0 := p'.cell0; have c1 := p'.cell1; (first | (go_simp; done) | (go_simp; with_reducible rfl) | with_reducible rfl)
    (try simp only [Act.put, List.setIfInBounds_toArray, List.set_cons_zero, List.set_cons_succ])
    refine wpAnyH_ready (rs := [4, 7]) (by kernel_rfl) (by simp) ?_
    refine AllReadyH.cons (o := ⟨_, _, _, _, _, _⟩) rfl (fun K hK => ?_) (AllReadyH.cons (o := ⟨_, _, _, _, _, _⟩) rfl (fun K hK => ?_) AllReadyH.nil)
    · go_simp
      refine (HA.out _ (bthen bW hS)).mono ?_
      rintro e u1 ⟨rfl, rfl⟩
      first | (with_reducible refine hK.out _ _ hS (fun _ => ?_)) | (go_wp2_with fail; with_reducible refine hK.out _ _ hS (fun _ => ?_))
      clear hK K
      (try simp only [Act.put, List.setIfInBounds_toArray, List.set_cons_zero, List.set_cons_succ])
      refine wpAnyH_ready (rs := [5, 7]) (by kernel_rfl) (by simp) ?_
      refine AllReadyH.cons (o := ⟨_, _, _, _, _, _⟩) rfl (fun K hK => ?_) (AllReadyH.cons (o := ⟨_, _, _, _, _, _⟩) rfl (fun K hK => ?_) AllReadyH.nil)
      · go_simp
        refine (HC.out _ (hr2.call hS)).mono ?_
        rintro e u2 ⟨v1, rfl, o1⟩; obtain ⟨B1, m1, e1, rfl, r1, x1, x1'⟩ := o1.form'; have d2 := o1.2
        replace hS := bthen hS d2
        first | (with_reducible refine hK.out _ _ hS (fun _ => ?_)) | (go_wp2_with fail; with_reducible refine hK.out _ _ hS (fun _ => ?_))
        clear hK K
        (try simp only [Act.put, List.setIfInBounds_toArray, List.set_cons_zero, List.set_cons_succ])
        refine wpAnyH_ready (rs := [6, 7]) (by kernel_rfl) (by simp) ?_
        refine AllReadyH.cons (o := ⟨_, _, _, _, _, _⟩) rfl (fun K hK => ?_) (AllReadyH.cons (o := ⟨_, _, _, _, _, _⟩) rfl (fun K hK => ?_) AllReadyH.nil)
        · go_simp
          refine (wrap_mag s _ r1 x1 x1').mono ?_
          rintro e u3 ⟨t2, B2, m2, e2, rfl, j2, d3⟩
          replace hS := bthen hS d3
          (replace r1 := r1.call d3)
          first | (with_reducible refine hK.out _ _ hS (fun _ => ?_)) | (go_wp2_with fail; with_reducible refine hK.out _ _ hS (fun _ => ?_))
          clear hK K
          (try simp only [Act.put, List.setIfInBounds_toArray, List.set_cons_zero, List.set_cons_succ])
          refine wpAnyH_ready (rs := [7]) (by kernel_rfl) (by simp) ?_
          refine AllReadyH.cons (o := ⟨_, _, _, _, _, _⟩) rfl (fun K hK => ?_) AllReadyH.nil
          go_simp
          have pz := Pr.new u3 false none 0 0
          have az := bone u3 (.cells #[.bool false, .slice none 0 0] 24)
          have hzg := hS.size
          replace hS := bthen hS az
          (replace r1 := r1.call az); (replace j2 := j2.call az)
          refine hK.out _ _ hS (fun _ => ?_)
          clear hK K az
          generalize hgz : u3.heap.size = gz at hzg pz ⊢
          clear hgz
          generalize u3.alloc (.cells #[.bool false, .slice none 0 0] 24) = u3z at *
          (try simp only [Act.put, List.setIfInBounds_toArray, List.set_cons_zero, List.set_cons_succ])
          refine wpAnyH_ready (rs := [8]) (by kernel_rfl) (by simp) ?_
          refine AllReadyH.cons (o := ⟨_, _, _, _, _, _⟩) rfl (fun K hK => ?_) AllReadyH.nil
          obtain ⟨q0, q1, f0, f1, k0, k1⟩ := pz.all (.bool t2) (.slice B2 m2 e2)
          have hSb := hS
          go_simp
          replace hS := below_stored hS hzg (.bool t2) (.slice B2 m2 e2)
          refine hK.out _ _ hS (fun _ => ?_)
          clear hK K
          (try simp only [Act.put, List.setIfInBounds_toArray, List.set_cons_zero, List.set_cons_succ])
          refine wpAnyH_done (by kernel_rfl) ?_ _
          go_wp2_with fail
          go_meet
          case rel => rw [← HX.out] at j2; exact Box.stored pz j2 hSb hzg
        · go_simp
          have pz := Pr.new u2 false none 0 0
          have az := bone u2 (.cells #[.bool false, .slice none 0 0] 24)
          have hzg := hS.size
          replace hS := bthen hS az
          (replace r1 := r1.call az)
          refine hK.out _ _ hS (fun _ => ?_)
          clear hK K az
          generalize hgz : u2.heap.size = gz at hzg pz ⊢
          clear hgz
          generalize u2.alloc (.cells #[.bool false, .slice none 0 0] 24) = u2z at *
          (try simp only [Act.put, List.setIfInBounds_toArray, List.set_cons_zero, List.set_cons_succ])
          refine wpAnyH_ready (rs := [6]) (by kernel_rfl) (by simp) ?_
          refine AllReadyH.cons (o := ⟨_, _, _, _, _, _⟩) rfl (fun K hK => ?_) AllReadyH.nil
          go_simp
          refine (wrap_mag s _ r1 x1 x1').mono ?_
          rintro e u3 ⟨t2, B2, m2, e2, rfl, j2, d3⟩
          replace hS := bthen hS d3
          (replace r1 := r1.call d3); (replace pz := pz.call d3)
          first | (with_reducible refine hK.out _ _ hS (fun _ => ?_)) | (go_wp2_with fail; with_reducible refine hK.out _ _ hS (fun _ => ?_))
          clear hK K
          (try simp only [Act.put, List.setIfInBounds_toArray, List.set_cons_zero, List.set_cons_succ])
          refine wpAnyH_ready (rs := [8]) (by kernel_rfl) (by simp) ?_
          refine AllReadyH.cons (o := ⟨_, _, _, _, _, _⟩) rfl (fun K hK => ?_) AllReadyH.nil
          obtain ⟨q0, q1, f0, f1, k0, k1⟩ := pz.all (.bool t2) (.slice B2 m2 e2)
          have hSb := hS
          go_simp
          replace hS := below_stored hS hzg (.bool t2) (.slice B2 m2 e2)
          refine hK.out _ _ hS (fun _ => ?_)
          clear hK K
          (try simp only [Act.put, List.setIfInBounds_toArray, List.set_cons_zero, List.set_cons_succ])
          refine wpAnyH_done (by kernel_rfl) ?_ _
          go_wp2_with fail
          go_meet
          case rel => rw [← HX.out] at j2; exact Box.stored pz j2 hSb hzg
      · go_simp
        have pz := Pr.new u1 false none 0 0
        have az := bone u1 (.cells #[.bool false, .slice none 0 0] 24)
        have hzg := hS.size
        replace hS := bthen hS az
        refine hK.out _ _ hS (fun _ => ?_)
        clear hK K az
        generalize hgz : u1.heap.size = gz at hzg pz ⊢
        clear hgz
        generalize u1.alloc (.cells #[.bool false, .slice none 0 0] 24) = u1z at *
        (try simp only [Act.put, List.setIfInBounds_toArray, List.set_cons_zero, List.set_cons_succ])
        refine wpAnyH_ready (rs := [5]) (by kernel_rfl) (by simp) ?_
        refine AllReadyH.cons (o := ⟨_, _, _, _, _, _⟩) rfl (fun K hK => ?_) AllReadyH.nil
        go_simp
        refine (HC.out _ (hr2.call hS)).mono ?_
        rintro e u2 ⟨v1, rfl, o1⟩; obtain ⟨B1, m1, e1, rfl, r1, x1, x1'⟩ := o1.form'; have d2 := o1.2
        replace hS := bthen hS d2
        (replace pz := pz.call d2)
        first | (with_reducible refine hK.out _ _ hS (fun _ => ?_)) | (go_wp2_with fail; with_reducible refine hK.out _ _ hS (fun _ => ?_))
        clear hK K
        (try simp only [Act.put, List.setIfInBounds_toArray, List.set_cons_zero, List.set_cons_succ])
        refine wpAnyH_ready (rs := [6]) (by kernel_rfl) (by simp) ?_
        refine AllReadyH.cons (o := ⟨_, _, _, _, _, _⟩) rfl (fun K hK => ?_) AllReadyH.nil
        go_simp
        refine (wrap_mag s _ r1 x1 x1').mono ?_
        rintro e u3 ⟨t2, B2, m2, e2, rfl, j2, d3⟩
        replace hS := bthen hS d3
        (replace r1 := r1.call d3); (replace pz := pz.call d3)
        first | (with_reducible refine hK.out _ _ hS (fun _ => ?_)) | (go_wp2_with fail; with_reducible refine hK.out _ _ hS (fun _ => ?_))
        clear hK K
        (try simp only [Act.put, List.setIfInBounds_toArray, List.set_cons_zero, List.set_cons_succ])
        refine wpAnyH_ready (rs := [8]) (by kernel_rfl) (by simp) ?_
        refine AllReadyH.cons (o := ⟨_, _, _, _, _, _⟩) rfl (fun K hK => ?_) AllReadyH.nil
        obtain ⟨q0, q1, f0, f1, k0, k1⟩ := pz.all (.bool t2) (.slice B2 m2 e2)
        have hSb := hS
        go_simp
        replace hS := below_stored hS hzg (.bool t2) (.slice B2 m2 e2)
        refine hK.out _ _ hS (fun _ => ?_)
        clear hK K
        (try simp only [Act.put, List.setIfInBounds_toArray, List.set_cons_zero, List.set_cons_succ])
        refine wpAnyH_done (by kernel_rfl) ?_ _
        go_wp2_with fail
        go_meet
        case rel => rw [← HX.out] at j2; exact Box.stored pz j2 hSb hzg
    · go_simp
      have pz := Pr.new u0 false none 0 0
      have az := bone u0 (.cells #[.bool false, .slice none 0 0] 24)
      have hzg := hS.size
      replace hS := bthen hS az
      refine hK.out _ _ hS (fun _ => ?_)
      clear hK K az
      generalize hgz : u0.heap.size = gz at hzg pz ⊢
      clear hgz
      generalize u0.alloc (.cells #[.bool false, .slice none 0 0] 24) = u0z at *
      (try simp only [Act.put, List.setIfInBounds_toArray, List.set_cons_zero, List.set_cons_succ])
      refine wpAnyH_ready (rs := [4]) (by kernel_rfl) (by simp) ?_
      refine AllReadyH.cons (o := ⟨_, _, _, _, _, _⟩) rfl (fun K hK => ?_) AllReadyH.nil
      go_simp
      refine (HA.out _ (bthen bW hS)).mono ?_
      rintro e u1 ⟨rfl, rfl⟩
      first | (with_reducible refine hK.out _ _ hS (fun _ => ?_)) | (go_wp2_with fail; with_reducible refine hK.out _ _ hS (fun _ => ?_))
      clear hK K
      (try simp only [Act.put, List.setIfInBounds_toArray, List.set_cons_zero, List.set_cons_succ])
      refine wpAnyH_ready (rs := [5]) (by kernel_rfl) (by simp) ?_
      refine AllReadyH.cons (o := ⟨_, _, _, _, _, _⟩) rfl (fun K hK => ?_) AllReadyH.nil
      go_simp
      refine (HC.out _ (hr2.call hS)).mono ?_
      rintro e u2 ⟨v1, rfl, o1⟩; obtain ⟨B1, m1, e1, rfl, r1, x1, x1'⟩ := o1.form'; have d2 := o1.2
      replace hS := bthen hS d2
      (replace pz := pz.call d2)
      first | (with_reducible refine hK.out _ _ hS (fun _ => ?_)) | (go_wp2_with fail; with_reducible refine hK.out _ _ hS (fun _ => ?_))
      clear hK K
      (try simp only [Act.put, List.setIfInBounds_toArray, List.set_cons_zero, List.set_cons_succ])
      refine wpAnyH_ready (rs := [6]) (by kernel_rfl) (by simp) ?_
      refine AllReadyH.cons (o := ⟨_, _, _, _, _, _⟩) rfl (fun K hK => ?_) AllReadyH.nil
      go_simp
      refine (wrap_mag s _ r1 x1 x1').mono ?_
      rintro e u3 ⟨t2, B2, m2, e2, rfl, j2, d3⟩
      replace hS := bthen hS d3
      (replace r1 := r1.call d3); (replace pz := pz.call d3)
      first | (with_reducible refine hK.out _ _ hS (fun _ => ?_)) | (go_wp2_with fail; with_reducible refine hK.out _ _ hS (fun _ => ?_))
      clear hK K
      (try simp only [Act.put, List.setIfInBounds_toArray, List.set_cons_zero, List.set_cons_succ])
      refine wpAnyH_ready (rs := [8]) (by kernel_rfl) (by simp) ?_
      refine AllReadyH.cons (o := ⟨_, _, _, _, _, _⟩) rfl (fun K hK => ?_) AllReadyH.nil
      obtain ⟨q0, q1, f0, f1, k0, k1⟩ := pz.all (.bool t2) (.slice B2 m2 e2)
      have hSb := hS
      go_simp
      replace hS := below_stored hS hzg (.bool t2) (.slice B2 m2 e2)
      refine hK.out _ _ hS (fun _ => ?_)
      clear hK K
      (try simp only [Act.put, List.setIfInBounds_toArray, List.set_cons_zero, List.set_cons_succ])
      refine wpAnyH_done (by kernel_rfl) ?_ _
      go_wp2_with fail
      go_meet
      case rel => rw [← HX.out] at j2; exact Box.stored pz j2 hSb hzg
  case rest =>
    obtain ⟨g7, s2, A2, n2, c2, rfl, p7, i7, d3, hg7⟩ := hcut
    obtain ⟨X3, rfl⟩ : ∃ X : World, X = wc := ⟨_, rfl⟩
    have HE : Hid (PowS w X3 g6 g7 x k k) := ⟨_, _, _, _, _, _, _, _, 0, 1, p6.call d3, p7, by rw [Int.pow_zero]; exact i1.call d3, by rw [Int.pow_one]; exact i7, by omega, fun h => by omega, by omega, pr.call d3, bthen bW d3⟩
    clear p6 p7 i1 i7 pr bW d3 pa hr2 HC HA r hd hd2
    go_wp2_with fail
    go_loopg [1] k (fun kk nv wx => nv = .int .i64 kk ∧ kk ≤ k ∧ Hid (PowS w wx g6 g7 x k kk))
    case atStart => exact ⟨rfl, Nat.le_refl _, HE⟩
    case round =>
      clear HE
      obtain ⟨kk, rfl⟩ : ∃ i, i = gk := ⟨_, rfl⟩
      obtain ⟨rfl, hkk, HP⟩ := hrel
      obtain ⟨s6, A6, n6, c6, s7, A7, n7, c7, r, e, p6, p7, i6, i7, hre, hek, hrk, pr, bR⟩ := HP.out
      have HRE := Lib.hid hre
      clear HP hre
      by_cases h0 : kk = 0
      · subst h0
        have HR : Hid (r = k) := by unfold Hid; have := HRE.out; omega
        obtain ⟨a0, a1⟩ := p6.cells1
        obtain ⟨q0, q1, f0, f1, k0, k1⟩ := pr.all (.bool s6) (.slice A6 n6 c6)
        have fin : RetIE w (x ^ k) 0 (.returned (.tuple #[.agg #[.bool s6, .slice A6 n6 c6], .int .i64 0])) ((wr.setCell ⟨w.heap.size + 1, 0, none⟩ (.bool s6)).setCell ⟨w.heap.size + 1, 1, none⟩ (.slice A6 n6 c6)) :=
          ⟨_, _, _, _, rfl, by rw [← HR.out]; exact i6.stored pr _ _, below_stored bR (by omega) _ _⟩
        have F := Lib.hid fin
        clear fin
        go_wp2
        refine bodyPost_ret (v := .tuple #[.agg #[.bool s6, .slice A6 n6 c6], .int .i64 0]) (by simp [results, Tryz.results58, go_sem, k0, k1]) rfl ?_
        exact F.out
      · have hk0 : decide ((0 : Int) < (kk : Int)) = true := by simp; omega
        have hk0' : 0 < kk := by omega
        have hek' : e ≤ k := hek hk0'
        obtain ⟨y1, y2, y3⟩ := pow_step (x := x) HRE.out hk0'
        have l6 := i6.len (LP.out r (by omega))
        have l7 := i7.len (LP.out e (by omega))
        have ea := and_one kk (by omega)
        clear hek
        by_cases ho : kk % 2 = 1
        · rw [ho] at ea
          have HY := Lib.hid (y1 ho)
          have HY3 := Lib.hid y3
          clear y1 y2 y3
          obtain ⟨a0, a1, b0, b1⟩ := p6.cells p7
          have HM := Lib.hid (mul_any wr i6.any i7.any (by omega) (by omega))
          rw [← Int.pow_add] at HM
          go_wp2_with fail
          refine HM.out.mono ?_
          rintro e X5 ⟨s5, A5, n5, c5, rfl, j5, d5⟩
          have p6' := p6.call d5
          obtain ⟨q0, q1, f0, f1, k0, k1⟩ := p6'.all (.bool s5) (.slice A5 n5 c5)
          have bX := below_stored (bthen bR d5) (g := g6) (by omega) (.bool s5) (.slice A5 n5 c5)
          have jX := j5.stored p6' (.bool s5) (.slice A5 n5 c5)
          have iX := (i7.call d5).stored p6' (.bool s5) (.slice A5 n5 c5)
          have p7X := (p7.call d5).far (g' := g6) (by omega) (.bool s5) (.slice A5 n5 c5)
          have prX := (pr.call d5).far (g' := g6) (by omega) (.bool s5) (.slice A5 n5 c5)
          have p6X := p6'.stored (s' := s5) (A' := A5) (n' := n5) (c' := c5)
          go_upto_region 8 with (fail)
          clear HM a0 a1 b0 b1 q0 q1 f0 f1 k0 k1 p6' p6 p7 pr i6 i7 bR j5 d5
          generalize (X5.setCell ⟨g6, 0, none⟩ (.bool s5)).setCell ⟨g6, 1, none⟩ (.slice A5 n5 c5) = X6 at *
          by_cases hh : kk / 2 = 0
          · have hz : decide ((0 : Int) < (kk : Int) / 2) = false := by simp; omega
            have HNX : Hid (r + e + e * (kk / 2) = k) := by unfold Hid; rw [hh, Nat.mul_zero, Nat.add_zero]; exact (HY3.out hh).2
            go_wp2_with fail
            go_roundg (kk / 2)
            case rel => exact ⟨by go_num, by omega, ⟨_, _, _, _, _, _, _, _, r + e, e, p6X, p7X, jX, iX, HNX.out, fun _ => hek', by have := HNX.out; omega, prX, bX⟩⟩
            case measure => omega
          · have hz : decide ((0 : Int) < (kk : Int) / 2) = true := by simp; omega
            have HNX : Hid (r + e + (e + e) * (kk / 2) = k) := by unfold Hid; rw [show e + e = 2 * e by omega]; exact HY.out
            have hee : e + e ≤ k := by have h1 := HNX.out; have h2 : (e + e) * 1 ≤ (e + e) * (kk / 2) := Nat.mul_le_mul_left _ (by omega); omega
            have hrr : r + e ≤ k := by have h1 := HNX.out; omega
            obtain ⟨b0, b1⟩ := p7X.cells1
            have HM := Lib.hid (mul_any _ iX.any iX.any (by omega) (by omega))
            rw [← Int.pow_add] at HM
            go_wp2_with fail
            refine HM.out.mono ?_
            rintro e X7 ⟨s8, A8, n8, c8, rfl, j8, d8⟩
            have p7' := p7X.call d8
            obtain ⟨q0, q1, f0, f1, k0, k1⟩ := p7'.all (.bool s8) (.slice A8 n8 c8)
            have bY := below_stored (bthen bX d8) (g := g7) (by omega) (.bool s8) (.slice A8 n8 c8)
            have jY := j8.stored p7' (.bool s8) (.slice A8 n8 c8)
            have iY := (jX.call d8).stored p7' (.bool s8) (.slice A8 n8 c8)
            have p6Y := (p6X.call d8).far (g' := g7) (by omega) (.bool s8) (.slice A8 n8 c8)
            have prY := (prX.call d8).far (g' := g7) (by omega) (.bool s8) (.slice A8 n8 c8)
            have p7Y := p7'.stored (s' := s8) (A' := A8) (n' := n8) (c' := c8)
            clear HM b0 b1
            go_wp2_with fail
            go_roundg (kk / 2)
            case rel => exact ⟨by go_num, by omega, ⟨_, _, _, _, _, _, _, _, r + e, e + e, p6Y, p7Y, iY, jY, HNX.out, fun _ => by omega, by omega, prY, bY⟩⟩
            case measure => omega
        · have ho0 : kk % 2 = 0 := by omega
          rw [ho0] at ea
          have hh : 0 < kk / 2 := by omega
          have hz : decide ((0 : Int) < (kk : Int) / 2) = true := by simp; omega
          have HNX : Hid (r + (e + e) * (kk / 2) = k) := by unfold Hid; rw [show e + e = 2 * e by omega]; exact y2 ho0
          have hee : e + e ≤ k := by have h1 := HNX.out; have h2 : (e + e) * 1 ≤ (e + e) * (kk / 2) := Nat.mul_le_mul_left _ (by omega); omega
          clear y1 y2 y3
          obtain ⟨b0, b1⟩ := p7.cells1
          have HM := Lib.hid (mul_any _ i7.any i7.any (by omega) (by omega))
          rw [← Int.pow_add] at HM
          go_wp2_with fail
          refine HM.out.mono ?_
          rintro e X7 ⟨s8, A8, n8, c8, rfl, j8, d8⟩
          have p7' := p7.call d8
          obtain ⟨q0, q1, f0, f1, k0, k1⟩ := p7'.all (.bool s8) (.slice A8 n8 c8)
          have bY := below_stored (bthen bR d8) (g := g7) (by omega) (.bool s8) (.slice A8 n8 c8)
          have jY := j8.stored p7' (.bool s8) (.slice A8 n8 c8)
          have iY := (i6.call d8).stored p7' (.bool s8) (.slice A8 n8 c8)
          have p6Y := (p6.call d8).far (g' := g7) (by omega) (.bool s8) (.slice A8 n8 c8)
          have prY := (pr.call d8).far (g' := g7) (by omega) (.bool s8) (.slice A8 n8 c8)
          have p7Y := p7'.stored (s' := s8) (A' := A8) (n' := n8) (c' := c8)
          clear HM b0 b1
          go_wp2_with fail
          go_roundg (kk / 2)
          case rel => exact ⟨by go_num, by omega, ⟨_, _, _, _, _, _, _, _, r, e + e, p6Y, p7Y, iY, jY, HNX.out, fun _ => by omega, by omega, prY, bY⟩⟩
          case measure => omega
end Go.Proofs.YtociocengfjioaaGreatDoor
