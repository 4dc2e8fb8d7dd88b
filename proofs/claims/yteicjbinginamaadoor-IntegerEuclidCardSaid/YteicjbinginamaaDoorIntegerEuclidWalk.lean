/- Walk of IntegerEuclid. -/
import Derived.Test.YteicjbinginamaaDoorLawKit
namespace Go.Proofs.YteicjbinginamaaDoor
open Go.RowKit
set_option linter.unusedVariables false

set_option maxHeartbeats 2000000 in
set_option maxRecDepth 100000 in
theorem law_IntegerEuclid {s t : Bool} {A A' : Option Addr} {n n' c c' : Nat} {x y : Int} (w : World) (ha : AInt w s A n c x) (hn : n ≤ 35184372087808) (hb : AInt w t A' n' c' y) (hn' : n' ≤ 35184372087808) (ht : Tab w) :
    Calls Tryd.prog 7 #[.agg #[.bool s, .slice A n c], .agg #[.bool t, .slice A' n' c']] w (RetV w (.bool true)) := by
  obtain ⟨W, hW, bW, pa, pb⟩ := boxes2' w s t A A' n n' c c'
  have a0 := pa.cell0
  have a1 := pa.cell1
  have b0 := pb.cell0
  have b1 := pb.cell1
  have HL := Lib.hid (light2 (s := s) (t := t) (A := A) (A' := A') (n := n) (n' := n') (c := c) (c' := c') W hn hn')
  have hsz : W.heap.size = w.heap.size + 1 + 1 := by rw [hW]; simp
  obtain ⟨W2, hW2⟩ : ∃ W2, W2 = W.alloc (.cells #[.bool s, .slice A n c, .bool t, .slice A' n' c'] 24) := ⟨_, rfl⟩
  have b2 : Below W.heap.size W W2 := by rw [hW2]; exact bone _ _
  rw [← hW2] at HL
  go_enter Tryd.func7, Tryd.ntmps7
  go_wp2_with fail
  rw [← hW]
  go_wp2_with fail
  rw [← hW2]
  rw [hsz] at HL
  refine HL.out.mono ?_
  rintro e X ⟨rfl, b3⟩
  replace b2 := bthen b2 b3
  (replace pa := pa.call b2); (replace pb := pb.call b2)
  replace bW := bthen bW b2
  (replace ha := ha.call bW); (replace hb := hb.call bW); (replace ht := ht.call bW)
  obtain ⟨a0, a1, b0, b1⟩ := pa.cells pb
  clear HL b3 b2 hW hW2 hsz
  by_cases hl : n + n' ≤ 60
  · have hd : decide (n + n' ≤ 60) = true := by simp; omega
    have hn6 : n ≤ 60 := by omega
    have hn6' : n' ≤ 60 := by omega
    have lx := ha.lim.mono hn6
    have ly := hb.lim.mono hn6'
    have H1 := Lib.hid (sign_any X hb)
    go_wp2_with fail
    refine H1.out.mono ?_
    rintro e X1 ⟨rfl, b4⟩
    (replace pa := pa.call b4); (replace pb := pb.call b4); (replace ha := ha.call b4); (replace hb := hb.call b4); (replace ht := ht.call b4)
    replace bW := bthen bW b4
    obtain ⟨a0, a1, b0, b1⟩ := pa.cells pb
    clear H1 b4
    by_cases hy : y = 0
    · subst hy
      have H2 := Lib.hid (awake_any X1 ht)
      go_wp2_with fail
      refine H2.out.mono ?_
      rintro e X2 ⟨rfl, b5⟩
      go_wp2
      go_ret
      exact ⟨rfl, bthen bW b5⟩
    · have hys : (y.sign == 0) = false := by simpa using hy
      have H2 := Lib.hid (divMod_any X1 ha hb (by omega) (by omega))
      go_wp2_with fail
      refine H2.out.mono ?_
      rintro e X2 ⟨s3, A3, n3, c3, s4, A4, n4, c4, code, rfl, i3, i4, rfl, b5⟩
      rw [if_neg hy] at i4
      have HY := Lib.hid hy
      simp only [if_neg hy]
      clear H2 hys hy
      (replace pa := pa.call b5); (replace pb := pb.call b5); (replace ha := ha.call b5); (replace hb := hb.call b5); (replace ht := ht.call b5)
      replace bW := bthen bW b5
      clear b5 a0 a1 b0 b1
      obtain ⟨X3, hX3, b6, pq, pr⟩ := boxes2' X2 s3 s4 A3 A4 n3 n4 c3 c4
      have lq : n3 ≤ 61 := i3.len (lx.fdiv y)
      have lr : n4 ≤ 60 := i4.len (ly.fmod HY.out)
      go_wp2_with fail
      rw [← hX3]
      (replace pa := pa.call b6); (replace pb := pb.call b6); (replace ha := ha.call b6); (replace hb := hb.call b6); (replace ht := ht.call b6); (replace i3 := i3.call b6); (replace i4 := i4.call b6)
      replace bW := bthen bW b6
      clear hX3 b6
      have lm : Lim (61 + 60) (x.fdiv y * y) := (lx.fdiv y).mul ly
      have la := lm.add ((ly.fmod (x := x) HY.out).mono (j := 61 + 60) (by omega))
      go_upto_region 4 with (fail)
      go_cut [8] (fun v wz => Box X3 wz v (x.fdiv y * y + x.fmod y))
      case first =>
        have d0 := bdrew X3
        (replace pa := pa.call d0); (replace pb := pb.call d0); (replace pq := pq.call d0); (replace pr := pr.call d0); (replace ha := ha.call d0); (replace hb := hb.call d0); (replace ht := ht.call d0); (replace i3 := i3.call d0); (replace i4 := i4.call d0)
        have bX := d0
        have aw0 : Below X3.drew.heap.size X3.drew (X3.alloc (.cells #[.bool false, .slice none 0 0] 24)).drew := bone X3.drew (.cells #[.bool false, .slice none 0 0] 24)
        go_region_held3 (fun w' => (w'.cell? ⟨w.heap.size + 1, 0, none⟩ = some (.bool t) ∧ w'.cell? ⟨w.heap.size + 1, 1, none⟩ = some (.slice A' n' c')) ∧ (w'.cell? ⟨X2.heap.size, 0, none⟩ = some (.bool s3) ∧ w'.cell? ⟨X2.heap.size, 1, none⟩ = some (.slice A3 n3 c3)) ∧ (w'.cell? ⟨X2.heap.size + 1, 0, none⟩ = some (.bool s4) ∧ w'.cell? ⟨X2.heap.size + 1, 1, none⟩ = some (.slice A4 n4 c4)))
          (first | (with_reducible exact ⟨pb.cells1, pq.cells1, pr.cells1⟩) | (with_reducible exact ⟨(pb.alloc _).cells1, (pq.alloc _).cells1, (pr.alloc _).cells1⟩) | (with_reducible exact ⟨(pb.far hz_pb _ _).cells1, (pq.far hz_pq _ _).cells1, (pr.far hz_pr _ _).cells1⟩) | (with_reducible exact ⟨(pb.call aw0).cells1, (pq.call aw0).cells1, (pr.call aw0).cells1⟩) | fail)
          ((first
              | (go_at_call 27; (with_reducible refine (mul_any _ i3.any hb (by omega) (by omega)).mono ?_); rintro e u1 ⟨s5, A5, n5, c5, rfl, i5, d1⟩; (replace bX := bthen bX d1); (replace pa := pa.call d1); (replace pb := pb.call d1); (replace pq := pq.call d1); (replace pr := pr.call d1); (replace ha := ha.call d1); (replace hb := hb.call d1); (replace ht := ht.call d1); (replace i3 := i3.call d1); (replace i4 := i4.call d1); (try replace pz := pz.call d1); have l5 := i5.len lm)
              | (go_at_call 27; have az : Below X3.drew.heap.size X3.drew (X3.alloc (.cells #[.bool false, .slice none 0 0] 24)).drew := bone X3.drew (.cells #[.bool false, .slice none 0 0] 24); have pz : Pr (X3.alloc (.cells #[.bool false, .slice none 0 0] 24)).drew X3.heap.size false none 0 0 := Pr.new X3.drew false none 0 0; have hzg := bX.size; have hz_pb : w.heap.size + 1 ≠ X3.heap.size := (by have : w.heap.size + 1 < X3.heap.size := pb.lt; omega); have hz_pq : X2.heap.size ≠ X3.heap.size := (by have : X2.heap.size < X3.heap.size := pq.lt; omega); have hz_pr : X2.heap.size + 1 ≠ X3.heap.size := (by have : X2.heap.size + 1 < X3.heap.size := pr.lt; omega); (replace bX := bthen bX az); (replace pa := pa.call az); (replace pb := pb.call az); (replace pq := pq.call az); (replace pr := pr.call az); (replace ha := ha.call az); (replace hb := hb.call az); (replace ht := ht.call az); (replace i3 := i3.call az); (replace i4 := i4.call az); (with_reducible refine (mul_any _ i3.any hb (by omega) (by omega)).mono ?_); rintro e u1 ⟨s5, A5, n5, c5, rfl, i5, d1⟩; (replace bX := bthen bX d1); (replace pa := pa.call d1); (replace pb := pb.call d1); (replace pq := pq.call d1); (replace pr := pr.call d1); (replace ha := ha.call d1); (replace hb := hb.call d1); (replace ht := ht.call d1); (replace i3 := i3.call d1); (replace i4 := i4.call d1); (try replace pz := pz.call d1); have l5 := i5.len lm)
              | (go_at_call 26; (with_reducible refine (add_any _ i5.any i4.any (by omega) (by omega)).mono ?_); rintro e u2 ⟨s6, A6, n6, c6, rfl, i6, d2⟩; (replace bX := bthen bX d2); (replace pa := pa.call d2); (replace pb := pb.call d2); (replace pq := pq.call d2); (replace pr := pr.call d2); (replace ha := ha.call d2); (replace hb := hb.call d2); (replace ht := ht.call d2); (replace i3 := i3.call d2); (replace i4 := i4.call d2); (replace i5 := i5.call d2); (try replace pz := pz.call d2); (try (obtain ⟨q0, q1, f0, f1, k0, k1⟩ := pz.all (.bool s6) (.slice A6 n6 c6))))
              | (go_at_call 26; have az : Below u1.heap.size u1 (u1.alloc (.cells #[.bool false, .slice none 0 0] 24)) := bone u1 (.cells #[.bool false, .slice none 0 0] 24); have pz : Pr (u1.alloc (.cells #[.bool false, .slice none 0 0] 24)) u1.heap.size false none 0 0 := Pr.new u1 false none 0 0; have hzg := bX.size; have hz_pb : w.heap.size + 1 ≠ u1.heap.size := (by have : w.heap.size + 1 < u1.heap.size := pb.lt; omega); have hz_pq : X2.heap.size ≠ u1.heap.size := (by have : X2.heap.size < u1.heap.size := pq.lt; omega); have hz_pr : X2.heap.size + 1 ≠ u1.heap.size := (by have : X2.heap.size + 1 < u1.heap.size := pr.lt; omega); (replace bX := bthen bX az); (replace pa := pa.call az); (replace pb := pb.call az); (replace pq := pq.call az); (replace pr := pr.call az); (replace ha := ha.call az); (replace hb := hb.call az); (replace ht := ht.call az); (replace i3 := i3.call az); (replace i4 := i4.call az); (replace i5 := i5.call az); (with_reducible refine (add_any _ i5.any i4.any (by omega) (by omega)).mono ?_); rintro e u2 ⟨s6, A6, n6, c6, rfl, i6, d2⟩; (replace bX := bthen bX d2); (replace pa := pa.call d2); (replace pb := pb.call d2); (replace pq := pq.call d2); (replace pr := pr.call d2); (replace ha := ha.call d2); (replace hb := hb.call d2); (replace ht := ht.call d2); (replace i3 := i3.call d2); (replace i4 := i4.call d2); (replace i5 := i5.call d2); (try replace pz := pz.call d2); (try (obtain ⟨q0, q1, f0, f1, k0, k1⟩ := pz.all (.bool s6) (.slice A6 n6 c6))))))
        all_goals
          go_wp2_with fail
          go_meet
          case rel => first | exact Box.new i6 bX | exact Box.stored pz i6 bX (by have := hzg; omega)
      case rest =>
        obtain ⟨g8, s6, A6, n6, c6, rfl, p8, i6, b8, hg8⟩ := hcut
        (replace pa := pa.call b8); (replace pb := pb.call b8); (replace pq := pq.call b8); (replace pr := pr.call b8); (replace ha := ha.call b8); (replace hb := hb.call b8); (replace ht := ht.call b8); (replace i3 := i3.call b8); (replace i4 := i4.call b8)
        replace bW := bthen bW b8
        have l6 := i6.len la
        have e0 : x.fdiv y * y + x.fmod y = x := by rw [Int.mul_comm, Int.add_comm]; exact Int.fmod_add_mul_fdiv x y
        have e1 := Lib.hid (cmpz_eq e0)
        have e2 := Lib.hid (cmpz_lt (x := ((x.fmod y).natAbs : Int)) (y := (y.natAbs : Int)) (by have := fmod_abs (x := x) HY.out; omega))
        have l9 := (ly.fmod (x := x) HY.out).abs
        have l10 := ly.abs
        have hsg := fmod_sign x HY.out
        clear lm la e0 b8 hg8 lq
        by_cases hr0 : x.fmod y = 0
        · have e3 : Hid ((x.fmod y).sign = 0) := by unfold Hid; rw [hr0]; rfl
          clear hr0 hsg
          go_wp2_with fail
          refine wp_region_held_drew (S := fun w' => Below wc.heap.size wc w') (by kernel_rfl) (bdrew wc) (fun hS => ?_)
          have hS : Below wc.heap.size wc wc.drew := bdrew wc
          generalize wc.drew = u0 at hS ⊢
          refine wpAnyH_take (i := 0) (oi := ⟨_, _, _, _, _, _⟩) (v := ?_) rfl (by kernel_rfl) (by kernel_rfl) (by kernel_rfl) (fun _ _ _ h => h) (Or.inl ⟨by rfl, ?_⟩) hS ?_
          rotate_left
          · intro w' hS'; (first | (go_simp; done) | (go_simp; with_reducible rfl) | with_reducible rfl)
          (try simp only [Act.put, List.setIfInBounds_toArray, List.set_cons_zero, List.set_cons_succ])
          refine wpAnyH_take (i := 1) (oi := ⟨_, _, _, _, _, _⟩) (v := ?_) rfl (by kernel_rfl) (by kernel_rfl) (by kernel_rfl) (fun _ _ _ h => h) (Or.inl ⟨by rfl, ?_⟩) hS ?_
          rotate_left
          · intro w' hS'; (first | (go_simp; done) | (go_simp; with_reducible rfl) | with_reducible rfl)
          (try simp only [Act.put, List.setIfInBounds_toArray, List.set_cons_zero, List.set_cons_succ])
          refine wpAnyH_take (i := 2) (oi := ⟨_, _, _, _, _, _⟩) (v := ?_) rfl (by kernel_rfl) (by kernel_rfl) (by kernel_rfl) (fun _ _ _ h => h) (Or.inl ⟨by rfl, ?_⟩) hS ?_
          rotate_left
          · intro w' hS'; (first | (go_simp; done) | (go_simp; with_reducible rfl) | with_reducible rfl)
          (try simp only [Act.put, List.setIfInBounds_toArray, List.set_cons_zero, List.set_cons_succ])
          refine wpAnyH_take (i := 3) (oi := ⟨_, _, _, _, _, _⟩) (v := ?_) rfl (by kernel_rfl) (by kernel_rfl) (by kernel_rfl) (fun _ _ _ h => h) (Or.inl ⟨by rfl, ?_⟩) hS ?_
          rotate_left
          · intro w' hS'; have p' := p8.call hS'; have c0 := p'.cell0; have c1 := p'.cell1; (first | (go_simp; done) | (go_simp; with_reducible rfl) | with_reducible rfl)
          (try simp only [Act.put, List.setIfInBounds_toArray, List.set_cons_zero, List.set_cons_succ])
          refine wpAnyH_take (i := 4) (oi := ⟨_, _, _, _, _, _⟩) (v := ?_) rfl (by kernel_rfl) (by kernel_rfl) (by kernel_rfl) (fun _ _ _ h => h) (Or.inl ⟨by rfl, ?_⟩) hS ?_
          rotate_left
          · intro w' hS'; have p' := pa.call hS'; have c0 := p'.cell0; have c1 := p'.cell1; (first | (go_simp; done) | (go_simp; with_reducible rfl) | with_reducible rfl)
          (try simp only [Act.put, List.setIfInBounds_toArray, List.set_cons_zero, List.set_cons_succ])
          refine wpAnyH_ready (rs := [5]) (by kernel_rfl) (by simp) ?_
          refine AllReadyH.cons (o := ⟨_, _, _, _, _, _⟩) rfl (fun K hK => ?_) AllReadyH.nil
          go_simp
          refine (compare_is 0 _ (i6.call hS).any (ha.call hS) (by omega) (by omega) e1.out).mono ?_
          rintro e u1 ⟨rfl, d1⟩
          replace hS := bthen hS d1
          first | (with_reducible refine hK.out _ _ hS (fun _ => ?_)) | (go_wp2_with fail; with_reducible refine hK.out _ _ hS (fun _ => ?_))
          clear hK K
          (try simp only [Act.put, List.setIfInBounds_toArray, List.set_cons_zero, List.set_cons_succ])
          refine wpAnyH_take (i := 6) (oi := ⟨_, _, _, _, _, _⟩) (v := ?_) rfl (by kernel_rfl) (by kernel_rfl) (by kernel_rfl) (fun _ _ _ h => h) (Or.inl ⟨by rfl, ?_⟩) hS ?_
          rotate_left
          · intro w' hS'; (first | (go_simp; done) | (go_simp; with_reducible rfl) | with_reducible rfl)
          (try simp only [Act.put, List.setIfInBounds_toArray, List.set_cons_zero, List.set_cons_succ])
          refine wpAnyH_take (i := 7) (oi := ⟨_, _, _, _, _, _⟩) (v := ?_) rfl (by kernel_rfl) (by kernel_rfl) (by kernel_rfl) (fun _ _ _ h => h) (Or.inl ⟨by rfl, ?_⟩) hS ?_
          rotate_left
          · intro w' hS'; (first | (go_simp; done) | (go_simp; with_reducible rfl) | with_reducible rfl)
          (try simp only [Act.put, List.setIfInBounds_toArray, List.set_cons_zero, List.set_cons_succ])
          refine wpAnyH_take (i := 8) (oi := ⟨_, _, _, _, _, _⟩) (v := ?_) rfl (by kernel_rfl) (by kernel_rfl) (by kernel_rfl) (fun _ _ _ h => h) (Or.inl ⟨by rfl, ?_⟩) hS ?_
          rotate_left
          · intro w' hS'; (first | (go_simp; done) | (go_simp; with_reducible rfl) | with_reducible rfl)
          (try simp only [Act.put, List.setIfInBounds_toArray, List.set_cons_zero, List.set_cons_succ])
          refine wpAnyH_take (i := 9) (oi := ⟨_, _, _, _, _, _⟩) (v := ?_) rfl (by kernel_rfl) (by kernel_rfl) (by kernel_rfl) (fun _ _ _ h => h) (Or.inl ⟨by rfl, ?_⟩) hS ?_
          rotate_left
          · intro w' hS'; have p' := pr.call hS'; have c0 := p'.cell0; have c1 := p'.cell1; (first | (go_simp; done) | (go_simp; with_reducible rfl) | with_reducible rfl)
          (try simp only [Act.put, List.setIfInBounds_toArray, List.set_cons_zero, List.set_cons_succ])
          refine wpAnyH_ready (rs := [10]) (by kernel_rfl) (by simp) ?_
          refine AllReadyH.cons (o := ⟨_, _, _, _, _, _⟩) rfl (fun K hK => ?_) AllReadyH.nil
          go_simp
          refine (sign_is 0 _ (i4.call hS).any e3.out).mono ?_
          rintro e u2 ⟨rfl, d2⟩
          replace hS := bthen hS d2
          first | (with_reducible refine hK.out _ _ hS (fun _ => ?_)) | (go_wp2_with fail; with_reducible refine hK.out _ _ hS (fun _ => ?_))
          clear hK K
          (try simp only [Act.put, List.setIfInBounds_toArray, List.set_cons_zero, List.set_cons_succ])
          refine wpAnyH_take (i := 11) (oi := ⟨_, _, _, _, _, _⟩) (v := ?_) rfl (by kernel_rfl) (by kernel_rfl) (by kernel_rfl) (fun _ _ _ h => h) (Or.inl ⟨by rfl, ?_⟩) hS ?_
          rotate_left
          · intro w' hS'; (first | (go_simp; done) | (go_simp; with_reducible rfl) | with_reducible rfl)
          (try simp only [Act.put, List.setIfInBounds_toArray, List.set_cons_zero, List.set_cons_succ])
          refine wpAnyH_take (i := 12) (oi := ⟨_, _, _, _, _, _⟩) (v := ?_) rfl (by kernel_rfl) (by kernel_rfl) (by kernel_rfl) (fun _ _ _ h => h) (Or.inl ⟨by rfl, ?_⟩) hS ?_
          rotate_left
          · intro w' hS'; (first | (go_simp; done) | (go_simp; with_reducible rfl) | with_reducible rfl)
          (try simp only [Act.put, List.setIfInBounds_toArray, List.set_cons_zero, List.set_cons_succ])
          refine wpAnyH_take (i := 13) (oi := ⟨_, _, _, _, _, _⟩) (v := undef) rfl (by kernel_rfl) (by kernel_rfl) (by kernel_rfl) (fun _ _ _ h => h) (Or.inr ⟨by rfl, rfl⟩) hS ?_
          (try simp only [Act.put, List.setIfInBounds_toArray, List.set_cons_zero, List.set_cons_succ])
          refine wpAnyH_take (i := 14) (oi := ⟨_, _, _, _, _, _⟩) (v := undef) rfl (by kernel_rfl) (by kernel_rfl) (by kernel_rfl) (fun _ _ _ h => h) (Or.inr ⟨by rfl, rfl⟩) hS ?_
          (try simp only [Act.put, List.setIfInBounds_toArray, List.set_cons_zero, List.set_cons_succ])
          refine wpAnyH_take (i := 15) (oi := ⟨_, _, _, _, _, _⟩) (v := undef) rfl (by kernel_rfl) (by kernel_rfl) (by kernel_rfl) (fun _ _ _ h => h) (Or.inr ⟨by rfl, rfl⟩) hS ?_
          (try simp only [Act.put, List.setIfInBounds_toArray, List.set_cons_zero, List.set_cons_succ])
          refine wpAnyH_take (i := 16) (oi := ⟨_, _, _, _, _, _⟩) (v := undef) rfl (by kernel_rfl) (by kernel_rfl) (by kernel_rfl) (fun _ _ _ h => h) (Or.inr ⟨by rfl, rfl⟩) hS ?_
          (try simp only [Act.put, List.setIfInBounds_toArray, List.set_cons_zero, List.set_cons_succ])
          refine wpAnyH_take (i := 17) (oi := ⟨_, _, _, _, _, _⟩) (v := undef) rfl (by kernel_rfl) (by kernel_rfl) (by kernel_rfl) (fun _ _ _ h => h) (Or.inr ⟨by rfl, rfl⟩) hS ?_
          (try simp only [Act.put, List.setIfInBounds_toArray, List.set_cons_zero, List.set_cons_succ])
          refine wpAnyH_take (i := 18) (oi := ⟨_, _, _, _, _, _⟩) (v := ?_) rfl (by kernel_rfl) (by kernel_rfl) (by kernel_rfl) (fun _ _ _ h => h) (Or.inl ⟨by rfl, ?_⟩) hS ?_
          rotate_left
          · intro w' hS'; (first | (go_simp; done) | (go_simp; with_reducible rfl) | with_reducible rfl)
          (try simp only [Act.put, List.setIfInBounds_toArray, List.set_cons_zero, List.set_cons_succ])
          refine wpAnyH_take (i := 19) (oi := ⟨_, _, _, _, _, _⟩) (v := ?_) rfl (by kernel_rfl) (by kernel_rfl) (by kernel_rfl) (fun _ _ _ h => h) (Or.inl ⟨by rfl, ?_⟩) hS ?_
          rotate_left
          · intro w' hS'; (first | (go_simp; done) | (go_simp; with_reducible rfl) | with_reducible rfl)
          (try simp only [Act.put, List.setIfInBounds_toArray, List.set_cons_zero, List.set_cons_succ])
          refine wpAnyH_take (i := 20) (oi := ⟨_, _, _, _, _, _⟩) (v := ?_) rfl (by kernel_rfl) (by kernel_rfl) (by kernel_rfl) (fun _ _ _ h => h) (Or.inl ⟨by rfl, ?_⟩) hS ?_
          rotate_left
          · intro w' hS'; (first | (go_simp; done) | (go_simp; with_reducible rfl) | with_reducible rfl)
          (try simp only [Act.put, List.setIfInBounds_toArray, List.set_cons_zero, List.set_cons_succ])
          refine wpAnyH_take (i := 21) (oi := ⟨_, _, _, _, _, _⟩) (v := ?_) rfl (by kernel_rfl) (by kernel_rfl) (by kernel_rfl) (fun _ _ _ h => h) (Or.inl ⟨by rfl, ?_⟩) hS ?_
          rotate_left
          · intro w' hS'; have p' := pr.call hS'; have c0 := p'.cell0; have c1 := p'.cell1; (first | (go_simp; done) | (go_simp; with_reducible rfl) | with_reducible rfl)
          (try simp only [Act.put, List.setIfInBounds_toArray, List.set_cons_zero, List.set_cons_succ])
          refine wpAnyH_take (i := 23) (oi := ⟨_, _, _, _, _, _⟩) (v := ?_) rfl (by kernel_rfl) (by kernel_rfl) (by kernel_rfl) (fun _ _ _ h => h) (Or.inl ⟨by rfl, ?_⟩) hS ?_
          rotate_left
          · intro w' hS'; have p' := pb.call hS'; have c0 := p'.cell0; have c1 := p'.cell1; (first | (go_simp; done) | (go_simp; with_reducible rfl) | with_reducible rfl)
          (try simp only [Act.put, List.setIfInBounds_toArray, List.set_cons_zero, List.set_cons_succ])
          refine wpAnyH_ready (rs := [22]) (by kernel_rfl) (by simp) ?_
          refine AllReadyH.cons (o := ⟨_, _, _, _, _, _⟩) rfl (fun K hK => ?_) AllReadyH.nil
          go_simp
          refine (abs_any _ (i4.call hS).any (by omega)).mono ?_
          rintro e u3 ⟨s9, A9, n9, c9, rfl, i9, d3⟩
          replace hS := bthen hS d3
          first | (with_reducible refine hK.out _ _ hS (fun _ => ?_)) | (go_wp2_with fail; with_reducible refine hK.out _ _ hS (fun _ => ?_))
          clear hK K
          have l9 := i9.len l9
          (try simp only [Act.put, List.setIfInBounds_toArray, List.set_cons_zero, List.set_cons_succ])
          refine wpAnyH_ready (rs := [24]) (by kernel_rfl) (by simp) ?_
          refine AllReadyH.cons (o := ⟨_, _, _, _, _, _⟩) rfl (fun K hK => ?_) AllReadyH.nil
          go_simp
          refine (abs_any _ (hb.call hS) (by omega)).mono ?_
          rintro e u4 ⟨s10, A10, n10, c10, rfl, i10, d4⟩
          replace hS := bthen hS d4
          (replace i9 := i9.call d4)
          first | (with_reducible refine hK.out _ _ hS (fun _ => ?_)) | (go_wp2_with fail; with_reducible refine hK.out _ _ hS (fun _ => ?_))
          clear hK K
          have l10 := i10.len l10
          (try simp only [Act.put, List.setIfInBounds_toArray, List.set_cons_zero, List.set_cons_succ])
          refine wpAnyH_ready (rs := [25]) (by kernel_rfl) (by simp) ?_
          refine AllReadyH.cons (o := ⟨_, _, _, _, _, _⟩) rfl (fun K hK => ?_) AllReadyH.nil
          go_simp
          refine (compare_is (-1) _ i9.any i10.any (by omega) (by omega) e2.out).mono ?_
          rintro e u5 ⟨rfl, d5⟩
          replace hS := bthen hS d5
          (replace i9 := i9.call d5); (replace i10 := i10.call d5)
          first | (with_reducible refine hK.out _ _ hS (fun _ => ?_)) | (go_wp2_with fail; with_reducible refine hK.out _ _ hS (fun _ => ?_))
          clear hK K
          (try simp only [Act.put, List.setIfInBounds_toArray, List.set_cons_zero, List.set_cons_succ])
          refine wpAnyH_take (i := 26) (oi := ⟨_, _, _, _, _, _⟩) (v := ?_) rfl (by kernel_rfl) (by kernel_rfl) (by kernel_rfl) (fun _ _ _ h => h) (Or.inl ⟨by rfl, ?_⟩) hS ?_
          rotate_left
          · intro w' hS'; (first | (go_simp; done) | (go_simp; with_reducible rfl) | with_reducible rfl)
          (try simp only [Act.put, List.setIfInBounds_toArray, List.set_cons_zero, List.set_cons_succ])
          refine wpAnyH_take (i := 27) (oi := ⟨_, _, _, _, _, _⟩) (v := ?_) rfl (by kernel_rfl) (by kernel_rfl) (by kernel_rfl) (fun _ _ _ h => h) (Or.inl ⟨by rfl, ?_⟩) hS ?_
          rotate_left
          · intro w' hS'; (first | (go_simp; done) | (go_simp; with_reducible rfl) | with_reducible rfl)
          (try simp only [Act.put, List.setIfInBounds_toArray, List.set_cons_zero, List.set_cons_succ])
          refine wpAnyH_take (i := 28) (oi := ⟨_, _, _, _, _, _⟩) (v := ?_) rfl (by kernel_rfl) (by kernel_rfl) (by kernel_rfl) (fun _ _ _ h => h) (Or.inl ⟨by rfl, ?_⟩) hS ?_
          rotate_left
          · intro w' hS'; (first | (go_simp; done) | (go_simp; with_reducible rfl) | with_reducible rfl)
          (try simp only [Act.put, List.setIfInBounds_toArray, List.set_cons_zero, List.set_cons_succ])
          refine wpAnyH_ready (rs := [29]) (by kernel_rfl) (by simp) ?_
          refine AllReadyH.cons (o := ⟨_, _, _, _, _, _⟩) rfl (fun K hK => ?_) AllReadyH.nil
          go_simp
          refine (awake_any _ (ht.call hS)).mono ?_
          rintro e u6 ⟨rfl, d6⟩
          replace hS := bthen hS d6
          (replace i9 := i9.call d6); (replace i10 := i10.call d6)
          first | (with_reducible refine hK.out _ _ hS (fun _ => ?_)) | (go_wp2_with fail; with_reducible refine hK.out _ _ hS (fun _ => ?_))
          clear hK K
          (try simp only [Act.put, List.setIfInBounds_toArray, List.set_cons_zero, List.set_cons_succ])
          refine wpAnyH_take (i := 30) (oi := ⟨_, _, _, _, _, _⟩) (v := ?_) rfl (by kernel_rfl) (by kernel_rfl) (by kernel_rfl) (fun _ _ _ h => h) (Or.inl ⟨by rfl, ?_⟩) hS ?_
          rotate_left
          · intro w' hS'; (first | (go_simp; done) | (go_simp; with_reducible rfl) | with_reducible rfl)
          (try simp only [Act.put, List.setIfInBounds_toArray, List.set_cons_zero, List.set_cons_succ])
          refine wpAnyH_take (i := 31) (oi := ⟨_, _, _, _, _, _⟩) (v := ?_) rfl (by kernel_rfl) (by kernel_rfl) (by kernel_rfl) (fun _ _ _ h => h) (Or.inl ⟨by rfl, ?_⟩) hS ?_
          rotate_left
          · intro w' hS'; (first | (go_simp; done) | (go_simp; with_reducible rfl) | with_reducible rfl)
          (try simp only [Act.put, List.setIfInBounds_toArray, List.set_cons_zero, List.set_cons_succ])
          refine wpAnyH_done (by kernel_rfl) ?_ _
          go_wp2
          go_ret
          exact ⟨rfl, bthen bW hS⟩
        · rcases Int.lt_or_gt_of_ne HY.out with hy0 | hy0
          · have e3 : Hid ((x.fmod y).sign = -1) := Int.sign_eq_neg_one_of_neg (by have := hsg.2 hy0; omega)
            have e4 : Hid (y.sign = -1) := Int.sign_eq_neg_one_of_neg hy0
            clear hr0 hsg hy0
            go_wp2_with fail
            have d0 := bdrew wc
            (replace pa := pa.call d0); (replace pb := pb.call d0); (replace pr := pr.call d0); (replace p8 := p8.call d0); (replace ha := ha.call d0); (replace hb := hb.call d0); (replace ht := ht.call d0); (replace i4 := i4.call d0); (replace i6 := i6.call d0)
            have bX := d0
            first
              | (go_region_held3 (fun w' => (w'.cell? ⟨w.heap.size, 0, none⟩ = some (.bool s) ∧ w'.cell? ⟨w.heap.size, 1, none⟩ = some (.slice A n c)) ∧ (w'.cell? ⟨w.heap.size + 1, 0, none⟩ = some (.bool t) ∧ w'.cell? ⟨w.heap.size + 1, 1, none⟩ = some (.slice A' n' c')) ∧ (w'.cell? ⟨X2.heap.size + 1, 0, none⟩ = some (.bool s4) ∧ w'.cell? ⟨X2.heap.size + 1, 1, none⟩ = some (.slice A4 n4 c4)) ∧ (w'.cell? ⟨g8, 0, none⟩ = some (.bool s6) ∧ w'.cell? ⟨g8, 1, none⟩ = some (.slice A6 n6 c6)))
                (first | (with_reducible exact ⟨pa.cells1, pb.cells1, pr.cells1, p8.cells1⟩) | fail)
                ((first
                    | (go_at_call 30; (with_reducible refine (compare_is 0 _ i6.any ha (by omega) (by omega) e1.out).mono ?_); rintro e u1 ⟨rfl, d1⟩; (replace bX := bthen bX d1); (replace pa := pa.call d1); (replace pb := pb.call d1); (replace pr := pr.call d1); (replace p8 := p8.call d1); (replace ha := ha.call d1); (replace hb := hb.call d1); (replace ht := ht.call d1); (replace i4 := i4.call d1); (replace i6 := i6.call d1))
                    | (go_at_call 28; (with_reducible refine (sign_is (-1) _ i4.any e3.out).mono ?_); rintro e u2 ⟨rfl, d2⟩; (replace bX := bthen bX d2); (replace pa := pa.call d2); (replace pb := pb.call d2); (replace pr := pr.call d2); (replace p8 := p8.call d2); (replace ha := ha.call d2); (replace hb := hb.call d2); (replace ht := ht.call d2); (replace i4 := i4.call d2); (replace i6 := i6.call d2))
                    | (go_at_call 28; (with_reducible refine (sign_is (-1) _ hb e4.out).mono ?_); rintro e u3 ⟨rfl, d3⟩; (replace bX := bthen bX d3); (replace pa := pa.call d3); (replace pb := pb.call d3); (replace pr := pr.call d3); (replace p8 := p8.call d3); (replace ha := ha.call d3); (replace hb := hb.call d3); (replace ht := ht.call d3); (replace i4 := i4.call d3); (replace i6 := i6.call d3))
                    | (go_at_call 31; (with_reducible refine (abs_any _ i4.any (by omega)).mono ?_); rintro e u4 ⟨s9, A9, n9, c9, rfl, i9, d4⟩; (replace bX := bthen bX d4); (replace pa := pa.call d4); (replace pb := pb.call d4); (replace pr := pr.call d4); (replace p8 := p8.call d4); (replace ha := ha.call d4); (replace hb := hb.call d4); (replace ht := ht.call d4); (replace i4 := i4.call d4); (replace i6 := i6.call d4))
                    | (go_at_call 31; (with_reducible refine (abs_any _ hb (by omega)).mono ?_); rintro e u5 ⟨s10, A10, n10, c10, rfl, i10, d5⟩; (replace bX := bthen bX d5); (replace pa := pa.call d5); (replace pb := pb.call d5); (replace pr := pr.call d5); (replace p8 := p8.call d5); (replace ha := ha.call d5); (replace hb := hb.call d5); (replace ht := ht.call d5); (replace i4 := i4.call d5); (replace i6 := i6.call d5); (replace i9 := i9.call d5); have l9 := i9.len l9; have l10 := i10.len l10)
                    | (go_at_call 30; (with_reducible refine (compare_is (-1) _ i9.any i10.any (by omega) (by omega) e2.out).mono ?_); rintro e u6 ⟨rfl, d6⟩; (replace bX := bthen bX d6); (replace pa := pa.call d6); (replace pb := pb.call d6); (replace pr := pr.call d6); (replace p8 := p8.call d6); (replace ha := ha.call d6); (replace hb := hb.call d6); (replace ht := ht.call d6); (replace i4 := i4.call d6); (replace i6 := i6.call d6); (replace i9 := i9.call d6); (replace i10 := i10.call d6))
                    | (go_at_call 13; (with_reducible refine (awake_any _ ht).mono ?_); rintro e u7 ⟨rfl, d7⟩; (replace bX := bthen bX d7); (replace pa := pa.call d7); (replace pb := pb.call d7); (replace pr := pr.call d7); (replace p8 := p8.call d7); (replace ha := ha.call d7); (replace hb := hb.call d7); (replace ht := ht.call d7); (replace i4 := i4.call d7); (replace i6 := i6.call d7); (replace i9 := i9.call d7); (replace i10 := i10.call d7)))))
              | fail
            go_wp2
            go_ret
            exact ⟨rfl, bthen bW bX⟩
          · have e3 : Hid ((x.fmod y).sign = 1) := Int.sign_eq_one_of_pos (by have := hsg.1 hy0; omega)
            have e4 : Hid (y.sign = 1) := Int.sign_eq_one_of_pos hy0
            clear hr0 hsg hy0
            go_wp2_with fail
            have d0 := bdrew wc
            (replace pa := pa.call d0); (replace pb := pb.call d0); (replace pr := pr.call d0); (replace p8 := p8.call d0); (replace ha := ha.call d0); (replace hb := hb.call d0); (replace ht := ht.call d0); (replace i4 := i4.call d0); (replace i6 := i6.call d0)
            have bX := d0
            first
              | (go_region_held3 (fun w' => (w'.cell? ⟨w.heap.size, 0, none⟩ = some (.bool s) ∧ w'.cell? ⟨w.heap.size, 1, none⟩ = some (.slice A n c)) ∧ (w'.cell? ⟨w.heap.size + 1, 0, none⟩ = some (.bool t) ∧ w'.cell? ⟨w.heap.size + 1, 1, none⟩ = some (.slice A' n' c')) ∧ (w'.cell? ⟨X2.heap.size + 1, 0, none⟩ = some (.bool s4) ∧ w'.cell? ⟨X2.heap.size + 1, 1, none⟩ = some (.slice A4 n4 c4)) ∧ (w'.cell? ⟨g8, 0, none⟩ = some (.bool s6) ∧ w'.cell? ⟨g8, 1, none⟩ = some (.slice A6 n6 c6)))
                (first | (with_reducible exact ⟨pa.cells1, pb.cells1, pr.cells1, p8.cells1⟩) | fail)
                ((first
                    | (go_at_call 30; (with_reducible refine (compare_is 0 _ i6.any ha (by omega) (by omega) e1.out).mono ?_); rintro e u1 ⟨rfl, d1⟩; (replace bX := bthen bX d1); (replace pa := pa.call d1); (replace pb := pb.call d1); (replace pr := pr.call d1); (replace p8 := p8.call d1); (replace ha := ha.call d1); (replace hb := hb.call d1); (replace ht := ht.call d1); (replace i4 := i4.call d1); (replace i6 := i6.call d1))
                    | (go_at_call 28; (with_reducible refine (sign_is 1 _ i4.any e3.out).mono ?_); rintro e u2 ⟨rfl, d2⟩; (replace bX := bthen bX d2); (replace pa := pa.call d2); (replace pb := pb.call d2); (replace pr := pr.call d2); (replace p8 := p8.call d2); (replace ha := ha.call d2); (replace hb := hb.call d2); (replace ht := ht.call d2); (replace i4 := i4.call d2); (replace i6 := i6.call d2))
                    | (go_at_call 28; (with_reducible refine (sign_is 1 _ hb e4.out).mono ?_); rintro e u3 ⟨rfl, d3⟩; (replace bX := bthen bX d3); (replace pa := pa.call d3); (replace pb := pb.call d3); (replace pr := pr.call d3); (replace p8 := p8.call d3); (replace ha := ha.call d3); (replace hb := hb.call d3); (replace ht := ht.call d3); (replace i4 := i4.call d3); (replace i6 := i6.call d3))
                    | (go_at_call 31; (with_reducible refine (abs_any _ i4.any (by omega)).mono ?_); rintro e u4 ⟨s9, A9, n9, c9, rfl, i9, d4⟩; (replace bX := bthen bX d4); (replace pa := pa.call d4); (replace pb := pb.call d4); (replace pr := pr.call d4); (replace p8 := p8.call d4); (replace ha := ha.call d4); (replace hb := hb.call d4); (replace ht := ht.call d4); (replace i4 := i4.call d4); (replace i6 := i6.call d4))
                    | (go_at_call 31; (with_reducible refine (abs_any _ hb (by omega)).mono ?_); rintro e u5 ⟨s10, A10, n10, c10, rfl, i10, d5⟩; (replace bX := bthen bX d5); (replace pa := pa.call d5); (replace pb := pb.call d5); (replace pr := pr.call d5); (replace p8 := p8.call d5); (replace ha := ha.call d5); (replace hb := hb.call d5); (replace ht := ht.call d5); (replace i4 := i4.call d5); (replace i6 := i6.call d5); (replace i9 := i9.call d5); have l9 := i9.len l9; have l10 := i10.len l10)
                    | (go_at_call 30; (with_reducible refine (compare_is (-1) _ i9.any i10.any (by omega) (by omega) e2.out).mono ?_); rintro e u6 ⟨rfl, d6⟩; (replace bX := bthen bX d6); (replace pa := pa.call d6); (replace pb := pb.call d6); (replace pr := pr.call d6); (replace p8 := p8.call d6); (replace ha := ha.call d6); (replace hb := hb.call d6); (replace ht := ht.call d6); (replace i4 := i4.call d6); (replace i6 := i6.call d6); (replace i9 := i9.call d6); (replace i10 := i10.call d6))
                    | (go_at_call 13; (with_reducible refine (awake_any _ ht).mono ?_); rintro e u7 ⟨rfl, d7⟩; (replace bX := bthen bX d7); (replace pa := pa.call d7); (replace pb := pb.call d7); (replace pr := pr.call d7); (replace p8 := p8.call d7); (replace ha := ha.call d7); (replace hb := hb.call d7); (replace ht := ht.call d7); (replace i4 := i4.call d7); (replace i6 := i6.call d7); (replace i9 := i9.call d7); (replace i10 := i10.call d7)))))
              | fail
            go_wp2
            go_ret
            exact ⟨rfl, bthen bW bX⟩
  · have hd : decide (n + n' ≤ 60) = false := by simp; omega
    have H2 := Lib.hid (awake_any X ht)
    go_wp2_with fail
    refine H2.out.mono ?_
    rintro e X2 ⟨rfl, b5⟩
    go_wp2
    go_ret
    exact ⟨rfl, bthen bW b5⟩
end Go.Proofs.YteicjbinginamaaDoor
