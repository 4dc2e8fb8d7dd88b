/- Walk of IntegerRing. -/
import Derived.Test.YteicjbinginamaaDoorLawKit
namespace Go.Proofs.YteicjbinginamaaDoor
open Go.RowKit
set_option linter.unusedVariables false

theorem boxes3' (w : World) (s t u : Bool) (A A' A'' : Option Addr) (n n' n'' c c' c'' : Nat) : ∃ W, W = ((w.alloc (.cells #[.bool s, .slice A n c] 24)).alloc (.cells #[.bool t, .slice A' n' c'] 24)).alloc (.cells #[.bool u, .slice A'' n'' c''] 24) ∧
    Below w.heap.size w W ∧ Pr W w.heap.size s A n c ∧ Pr W (w.heap.size + 1) t A' n' c' ∧ Pr W (w.heap.size + 1 + 1) u A'' n'' c'' := by
  obtain ⟨W, hW, b, p1, p2⟩ := boxes2' w s t A A' n n' c c'
  refine ⟨_, rfl, ?_⟩
  rw [← hW]
  refine ⟨bthen b (bone _ _), p1.alloc _, p2.alloc _, ?_⟩
  have h := Pr.new W u A'' n'' c''
  have hs : W.heap.size = w.heap.size + 1 + 1 := by rw [hW, alloc_size, alloc_size]
  rw [hs] at h
  exact h

set_option maxHeartbeats 4000000 in
set_option maxRecDepth 100000 in
theorem law_IntegerRing {s t u : Bool} {A A' A'' : Option Addr} {n n' n'' c c' c'' : Nat} {x y z : Int} (w : World) (ha : AInt w s A n c x) (hn : n ≤ 35184372087808) (hb : AInt w t A' n' c' y) (hn' : n' ≤ 35184372087808) (hc : AInt w u A'' n'' c'' z) (hn'' : n'' ≤ 35184372087808) (ht : Tab w) :
    Calls Tryd.prog 6 #[.agg #[.bool s, .slice A n c], .agg #[.bool t, .slice A' n' c'], .agg #[.bool u, .slice A'' n'' c'']] w (RetV w (.bool true)) := by
  obtain ⟨W, hW, bW, pa, pb, pc⟩ := boxes3' w s t u A A' A'' n n' n'' c c' c''
  have a0 := pa.cell0
  have a1 := pa.cell1
  have b0 := pb.cell0
  have b1 := pb.cell1
  have e0 := pc.cell0
  have e1 := pc.cell1
  have HL := Lib.hid (light3 (s := s) (t := t) (u := u) (A := A) (A' := A') (A'' := A'') (n := n) (n' := n') (n'' := n'') (c := c) (c' := c') (c'' := c'') W hn hn' hn'')
  have hsz : W.heap.size = w.heap.size + 1 + 1 + 1 := by rw [hW]; simp
  obtain ⟨W2, hW2⟩ : ∃ W2, W2 = W.alloc (.cells #[.bool s, .slice A n c, .bool t, .slice A' n' c', .bool u, .slice A'' n'' c''] 24) := ⟨_, rfl⟩
  have b2 : Below W.heap.size W W2 := by rw [hW2]; exact bone _ _
  rw [← hW2, hsz] at HL
  go_enter Tryd.func6, Tryd.ntmps6
  go_wp2_with fail
  rw [← hW]
  go_wp2_with fail
  rw [← hW2]
  refine HL.out.mono ?_
  rintro e X ⟨rfl, b3⟩
  replace b2 := bthen b2 b3
  (replace pa := pa.call b2); (replace pb := pb.call b2); (replace pc := pc.call b2)
  replace bW := bthen bW b2
  (replace ha := ha.call bW); (replace hb := hb.call bW); (replace hc := hc.call bW); (replace ht := ht.call bW)
  clear HL b3 b2 hW hW2 hsz a0 a1 b0 b1 e0 e1
  by_cases hl : n + (n' + n'') ≤ 60
  · have hd : decide (n + (n' + n'') ≤ 60) = true := by simp; omega
    have hn6 : n ≤ 60 := by omega
    have hn6' : n' ≤ 60 := by omega
    have hn6'' : n'' ≤ 60 := by omega
    have lx := ha.lim.mono hn6
    have ly := hb.lim.mono hn6'
    have lz := hc.lim.mono hn6''
    have la : Lim 61 (x + y) := lx.add ly
    have lb : Lim 61 (y + z) := ly.add lz
    have lc : Lim 120 (x * y) := lx.mul ly
    have ld : Lim 120 (y * z) := ly.mul lz
    have le : Lim 120 (x * z) := lx.mul lz
    have lf : Lim 62 (x + y + z) := la.add (lz.mono (by omega))
    have lg : Lim 62 (x + (y + z)) := (lx.mono (by omega)).add lb
    have lh : Lim 180 (x * y * z) := lc.mul lz
    have li : Lim 180 (x * (y * z)) := lx.mul ld
    have lj : Lim 121 (x * (y + z)) := lx.mul lb
    have lk : Lim 121 (x * y + x * z) := lc.add le
    go_upto_region 3 with (fail)
    go_cut [7] (fun v wz => Box X wz v (x + y + z))
    case first =>
      refine wp_region_held_drew (S := fun w' => Below X.heap.size X w') (by kernel_rfl) (bdrew X) (fun hS => ?_)
      have hS : Below X.heap.size X X.drew := bdrew X
      generalize X.drew = u0 at hS ⊢
      refine wpAnyH_take (i := 0) (oi := ⟨_, _, _, _, _, _⟩) (v := ?_) rfl (by kernel_rfl) (by kernel_rfl) (by kernel_rfl) (fun _ _ _ h => h) (Or.inl ⟨by rfl, ?_⟩) hS ?_
      rotate_left
      · intro w' hS'; have p' := pa.call hS'; have c0 := p'.cell0; have c1 := p'.cell1; (first | (go_simp; done) | (go_simp; with_reducible rfl) | with_reducible rfl)
      (try simp only [Act.put, List.setIfInBounds_toArray, List.set_cons_zero, List.set_cons_succ])
      refine wpAnyH_take (i := 1) (oi := ⟨_, _, _, _, _, _⟩) (v := ?_) rfl (by kernel_rfl) (by kernel_rfl) (by kernel_rfl) (fun _ _ _ h => h) (Or.inl ⟨by rfl, ?_⟩) hS ?_
      rotate_left
      · intro w' hS'; have p' := pb.call hS'; have c0 := p'.cell0; have c1 := p'.cell1; (first | (go_simp; done) | (go_simp; with_reducible rfl) | with_reducible rfl)
      (try simp only [Act.put, List.setIfInBounds_toArray, List.set_cons_zero, List.set_cons_succ])
      refine wpAnyH_take (i := 3) (oi := ⟨_, _, _, _, _, _⟩) (v := ?_) rfl (by kernel_rfl) (by kernel_rfl) (by kernel_rfl) (fun _ _ _ h => h) (Or.inl ⟨by rfl, ?_⟩) hS ?_
      rotate_left
      · intro w' hS'; have p' := pc.call hS'; have c0 := p'.cell0; have c1 := p'.cell1; (first | (go_simp; done) | (go_simp; with_reducible rfl) | with_reducible rfl)
      (try simp only [Act.put, List.setIfInBounds_toArray, List.set_cons_zero, List.set_cons_succ])
      refine wpAnyH_ready (rs := [2, 5]) (by kernel_rfl) (by simp) ?_
      refine AllReadyH.cons (o := ⟨_, _, _, _, _, _⟩) rfl (fun K hK => ?_) (AllReadyH.cons (o := ⟨_, _, _, _, _, _⟩) rfl (fun K hK => ?_) AllReadyH.nil)
      · go_simp
        refine (add_any _ (ha.call hS) (hb.call hS) (by omega) (by omega)).mono ?_
        rintro e u1 ⟨t1, B1, m1, e1, rfl, j1, d1⟩
        replace hS := bthen hS d1
        first | (with_reducible refine hK.out _ _ hS (fun _ => ?_)) | (go_wp2_with fail; with_reducible refine hK.out _ _ hS (fun _ => ?_))
        clear hK K
        have yj1 := j1.len la
        (try simp only [Act.put, List.setIfInBounds_toArray, List.set_cons_zero, List.set_cons_succ])
        refine wpAnyH_ready (rs := [4, 5]) (by kernel_rfl) (by simp) ?_
        refine AllReadyH.cons (o := ⟨_, _, _, _, _, _⟩) rfl (fun K hK => ?_) (AllReadyH.cons (o := ⟨_, _, _, _, _, _⟩) rfl (fun K hK => ?_) AllReadyH.nil)
        · go_simp
          refine (add_any _ j1.any (hc.call hS) (by omega) (by omega)).mono ?_
          rintro e u2 ⟨t2, B2, m2, e2, rfl, j2, d2⟩
          replace hS := bthen hS d2
          (replace j1 := j1.call d2)
          first | (with_reducible refine hK.out _ _ hS (fun _ => ?_)) | (go_wp2_with fail; with_reducible refine hK.out _ _ hS (fun _ => ?_))
          clear hK K
          (try simp only [Act.put, List.setIfInBounds_toArray, List.set_cons_zero, List.set_cons_succ])
          refine wpAnyH_ready (rs := [5]) (by kernel_rfl) (by simp) ?_
          refine AllReadyH.cons (o := ⟨_, _, _, _, _, _⟩) rfl (fun K hK => ?_) AllReadyH.nil
          go_simp
          have pz := Pr.new u2 false none 0 0
          have az := bone u2 (.cells #[.bool false, .slice none 0 0] 24)
          have hzg := hS.size
          replace hS := bthen hS az
          (replace j1 := j1.call az); (replace j2 := j2.call az)
          refine hK.out _ _ hS (fun _ => ?_)
          clear hK K az
          generalize hgz : u2.heap.size = gz at hzg pz ⊢
          clear hgz
          generalize u2.alloc (.cells #[.bool false, .slice none 0 0] 24) = u2z at *
          (try simp only [Act.put, List.setIfInBounds_toArray, List.set_cons_zero, List.set_cons_succ])
          refine wpAnyH_ready (rs := [6]) (by kernel_rfl) (by simp) ?_
          refine AllReadyH.cons (o := ⟨_, _, _, _, _, _⟩) rfl (fun K hK => ?_) AllReadyH.nil
          obtain ⟨q0, q1, f0, f1, k0, k1⟩ := pz.all (.bool t2) (.slice B2 m2 e2)
          have hSb := hS
          go_simp
          replace hS := below_stored hS hzg (.bool t2) (.slice B2 m2 e2)
          refine hK.out _ _ hS (fun _ => ?_)
          clear hK K
          (try simp only [Act.put, List.setIfInBounds_toArray, List.set_cons_zero, List.set_cons_succ])
          refine wpAnyH_done (by kernel_rfl) ?_ _
          go_wp2_with fail
          go_meet
          case rel => exact Box.stored pz j2 hSb hzg
        · go_simp
          have pz := Pr.new u1 false none 0 0
          have az := bone u1 (.cells #[.bool false, .slice none 0 0] 24)
          have hzg := hS.size
          replace hS := bthen hS az
          (replace j1 := j1.call az)
          refine hK.out _ _ hS (fun _ => ?_)
          clear hK K az
          generalize hgz : u1.heap.size = gz at hzg pz ⊢
          clear hgz
          generalize u1.alloc (.cells #[.bool false, .slice none 0 0] 24) = u1z at *
          (try simp only [Act.put, List.setIfInBounds_toArray, List.set_cons_zero, List.set_cons_succ])
          refine wpAnyH_ready (rs := [4]) (by kernel_rfl) (by simp) ?_
          refine AllReadyH.cons (o := ⟨_, _, _, _, _, _⟩) rfl (fun K hK => ?_) AllReadyH.nil
          go_simp
          refine (add_any _ j1.any (hc.call hS) (by omega) (by omega)).mono ?_
          rintro e u2 ⟨t2, B2, m2, e2, rfl, j2, d2⟩
          replace hS := bthen hS d2
          (replace j1 := j1.call d2); (replace pz := pz.call d2)
          first | (with_reducible refine hK.out _ _ hS (fun _ => ?_)) | (go_wp2_with fail; with_reducible refine hK.out _ _ hS (fun _ => ?_))
          clear hK K
          (try simp only [Act.put, List.setIfInBounds_toArray, List.set_cons_zero, List.set_cons_succ])
          refine wpAnyH_ready (rs := [6]) (by kernel_rfl) (by simp) ?_
          refine AllReadyH.cons (o := ⟨_, _, _, _, _, _⟩) rfl (fun K hK => ?_) AllReadyH.nil
          obtain ⟨q0, q1, f0, f1, k0, k1⟩ := pz.all (.bool t2) (.slice B2 m2 e2)
          have hSb := hS
          go_simp
          replace hS := below_stored hS hzg (.bool t2) (.slice B2 m2 e2)
          refine hK.out _ _ hS (fun _ => ?_)
          clear hK K
          (try simp only [Act.put, List.setIfInBounds_toArray, List.set_cons_zero, List.set_cons_succ])
          refine wpAnyH_done (by kernel_rfl) ?_ _
          go_wp2_with fail
          go_meet
          case rel => exact Box.stored pz j2 hSb hzg
      · go_simp
        have pz := Pr.new u0 false none 0 0
        have az := bone u0 (.cells #[.bool false, .slice none 0 0] 24)
        have hzg := hS.size
        replace hS := bthen hS az
        refine hK.out _ _ hS (fun _ => ?_)
        clear hK K az
        generalize hgz : u0.heap.size = gz at hzg pz ⊢
        clear hgz
        generalize u0.alloc (.cells #[.bool false, .slice none 0 0] 24) = u0z at *
        (try simp only [Act.put, List.setIfInBounds_toArray, List.set_cons_zero, List.set_cons_succ])
        refine wpAnyH_ready (rs := [2]) (by kernel_rfl) (by simp) ?_
        refine AllReadyH.cons (o := ⟨_, _, _, _, _, _⟩) rfl (fun K hK => ?_) AllReadyH.nil
        go_simp
        refine (add_any _ (ha.call hS) (hb.call hS) (by omega) (by omega)).mono ?_
        rintro e u1 ⟨t1, B1, m1, e1, rfl, j1, d1⟩
        replace hS := bthen hS d1
        (replace pz := pz.call d1)
        first | (with_reducible refine hK.out _ _ hS (fun _ => ?_)) | (go_wp2_with fail; with_reducible refine hK.out _ _ hS (fun _ => ?_))
        clear hK K
        have yj1 := j1.len la
        (try simp only [Act.put, List.setIfInBounds_toArray, List.set_cons_zero, List.set_cons_succ])
        refine wpAnyH_ready (rs := [4]) (by kernel_rfl) (by simp) ?_
        refine AllReadyH.cons (o := ⟨_, _, _, _, _, _⟩) rfl (fun K hK => ?_) AllReadyH.nil
        go_simp
        refine (add_any _ j1.any (hc.call hS) (by omega) (by omega)).mono ?_
        rintro e u2 ⟨t2, B2, m2, e2, rfl, j2, d2⟩
        replace hS := bthen hS d2
        (replace j1 := j1.call d2); (replace pz := pz.call d2)
        first | (with_reducible refine hK.out _ _ hS (fun _ => ?_)) | (go_wp2_with fail; with_reducible refine hK.out _ _ hS (fun _ => ?_))
        clear hK K
        (try simp only [Act.put, List.setIfInBounds_toArray, List.set_cons_zero, List.set_cons_succ])
        refine wpAnyH_ready (rs := [6]) (by kernel_rfl) (by simp) ?_
        refine AllReadyH.cons (o := ⟨_, _, _, _, _, _⟩) rfl (fun K hK => ?_) AllReadyH.nil
        obtain ⟨q0, q1, f0, f1, k0, k1⟩ := pz.all (.bool t2) (.slice B2 m2 e2)
        have hSb := hS
        go_simp
        replace hS := below_stored hS hzg (.bool t2) (.slice B2 m2 e2)
        refine hK.out _ _ hS (fun _ => ?_)
        clear hK K
        (try simp only [Act.put, List.setIfInBounds_toArray, List.set_cons_zero, List.set_cons_succ])
        refine wpAnyH_done (by kernel_rfl) ?_ _
        go_wp2_with fail
        go_meet
        case rel => exact Box.stored pz j2 hSb hzg
    case rest =>
      obtain ⟨g1, s1, A1, n1, c1, rfl, p1, i1, b1, hg1⟩ := hcut
      obtain ⟨X1, rfl⟩ : ∃ X : World, X = wc := ⟨_, rfl⟩
      (replace pa := pa.call b1); (replace pb := pb.call b1); (replace pc := pc.call b1); (replace ha := ha.call b1); (replace hb := hb.call b1); (replace hc := hc.call b1); (replace ht := ht.call b1)
      replace bW := bthen bW b1
      clear b1 hg1
      go_upto_region 4 with (fail)
      go_cut [8] (fun v wz => Box X1 wz v (x + (y + z)))
      case first =>
        refine wp_region_held_drew (S := fun w' => Below X1.heap.size X1 w') (by kernel_rfl) (bdrew X1) (fun hS => ?_)
        have hS : Below X1.heap.size X1 X1.drew := bdrew X1
        generalize X1.drew = u0 at hS ⊢
        refine wpAnyH_take (i := 0) (oi := ⟨_, _, _, _, _, _⟩) (v := ?_) rfl (by kernel_rfl) (by kernel_rfl) (by kernel_rfl) (fun _ _ _ h => h) (Or.inl ⟨by rfl, ?_⟩) hS ?_
        rotate_left
        · intro w' hS'; have p' := pa.call hS'; have c0 := p'.cell0; have c1 := p'.cell1; (first | (go_simp; done) | (go_simp; with_reducible rfl) | with_reducible rfl)
        (try simp only [Act.put, List.setIfInBounds_toArray, List.set_cons_zero, List.set_cons_succ])
        refine wpAnyH_take (i := 1) (oi := ⟨_, _, _, _, _, _⟩) (v := ?_) rfl (by kernel_rfl) (by kernel_rfl) (by kernel_rfl) (fun _ _ _ h => h) (Or.inl ⟨by rfl, ?_⟩) hS ?_
        rotate_left
        · intro w' hS'; have p' := pb.call hS'; have c0 := p'.cell0; have c1 := p'.cell1; (first | (go_simp; done) | (go_simp; with_reducible rfl) | with_reducible rfl)
        (try simp only [Act.put, List.setIfInBounds_toArray, List.set_cons_zero, List.set_cons_succ])
        refine wpAnyH_take (i := 2) (oi := ⟨_, _, _, _, _, _⟩) (v := ?_) rfl (by kernel_rfl) (by kernel_rfl) (by kernel_rfl) (fun _ _ _ h => h) (Or.inl ⟨by rfl, ?_⟩) hS ?_
        rotate_left
        · intro w' hS'; have p' := pc.call hS'; have c0 := p'.cell0; have c1 := p'.cell1; (first | (go_simp; done) | (go_simp; with_reducible rfl) | with_reducible rfl)
        (try simp only [Act.put, List.setIfInBounds_toArray, List.set_cons_zero, List.set_cons_succ])
        refine wpAnyH_ready (rs := [3, 5]) (by kernel_rfl) (by simp) ?_
        refine AllReadyH.cons (o := ⟨_, _, _, _, _, _⟩) rfl (fun K hK => ?_) (AllReadyH.cons (o := ⟨_, _, _, _, _, _⟩) rfl (fun K hK => ?_) AllReadyH.nil)
        · go_simp
          refine (add_any _ (hb.call hS) (hc.call hS) (by omega) (by omega)).mono ?_
          rintro e u1 ⟨t1, B1, m1, e1, rfl, j1, d1⟩
          replace hS := bthen hS d1
          first | (with_reducible refine hK.out _ _ hS (fun _ => ?_)) | (go_wp2_with fail; with_reducible refine hK.out _ _ hS (fun _ => ?_))
          clear hK K
          have yj1 := j1.len lb
          (try simp only [Act.put, List.setIfInBounds_toArray, List.set_cons_zero, List.set_cons_succ])
          refine wpAnyH_ready (rs := [4, 5]) (by kernel_rfl) (by simp) ?_
          refine AllReadyH.cons (o := ⟨_, _, _, _, _, _⟩) rfl (fun K hK => ?_) (AllReadyH.cons (o := ⟨_, _, _, _, _, _⟩) rfl (fun K hK => ?_) AllReadyH.nil)
          · go_simp
            refine (add_any _ (ha.call hS) j1.any (by omega) (by omega)).mono ?_
            rintro e u2 ⟨t2, B2, m2, e2, rfl, j2, d2⟩
            replace hS := bthen hS d2
            (replace j1 := j1.call d2)
            first | (with_reducible refine hK.out _ _ hS (fun _ => ?_)) | (go_wp2_with fail; with_reducible refine hK.out _ _ hS (fun _ => ?_))
            clear hK K
            (try simp only [Act.put, List.setIfInBounds_toArray, List.set_cons_zero, List.set_cons_succ])
            refine wpAnyH_ready (rs := [5]) (by kernel_rfl) (by simp) ?_
            refine AllReadyH.cons (o := ⟨_, _, _, _, _, _⟩) rfl (fun K hK => ?_) AllReadyH.nil
            go_simp
            have pz := Pr.new u2 false none 0 0
            have az := bone u2 (.cells #[.bool false, .slice none 0 0] 24)
            have hzg := hS.size
            replace hS := bthen hS az
            (replace j1 := j1.call az); (replace j2 := j2.call az)
            refine hK.out _ _ hS (fun _ => ?_)
            clear hK K az
            generalize hgz : u2.heap.size = gz at hzg pz ⊢
            clear hgz
            generalize u2.alloc (.cells #[.bool false, .slice none 0 0] 24) = u2z at *
            (try simp only [Act.put, List.setIfInBounds_toArray, List.set_cons_zero, List.set_cons_succ])
            refine wpAnyH_ready (rs := [6]) (by kernel_rfl) (by simp) ?_
            refine AllReadyH.cons (o := ⟨_, _, _, _, _, _⟩) rfl (fun K hK => ?_) AllReadyH.nil
            obtain ⟨q0, q1, f0, f1, k0, k1⟩ := pz.all (.bool t2) (.slice B2 m2 e2)
            have hSb := hS
            go_simp
            replace hS := below_stored hS hzg (.bool t2) (.slice B2 m2 e2)
            refine hK.out _ _ hS (fun _ => ?_)
            clear hK K
            (try simp only [Act.put, List.setIfInBounds_toArray, List.set_cons_zero, List.set_cons_succ])
            refine wpAnyH_done (by kernel_rfl) ?_ _
            go_wp2_with fail
            go_meet
            case rel => exact Box.stored pz j2 hSb hzg
          · go_simp
            have pz := Pr.new u1 false none 0 0
            have az := bone u1 (.cells #[.bool false, .slice none 0 0] 24)
            have hzg := hS.size
            replace hS := bthen hS az
            (replace j1 := j1.call az)
            refine hK.out _ _ hS (fun _ => ?_)
            clear hK K az
            generalize hgz : u1.heap.size = gz at hzg pz ⊢
            clear hgz
            generalize u1.alloc (.cells #[.bool false, .slice none 0 0] 24) = u1z at *
            (try simp only [Act.put, List.setIfInBounds_toArray, List.set_cons_zero, List.set_cons_succ])
            refine wpAnyH_ready (rs := [4]) (by kernel_rfl) (by simp) ?_
            refine AllReadyH.cons (o := ⟨_, _, _, _, _, _⟩) rfl (fun K hK => ?_) AllReadyH.nil
            go_simp
            refine (add_any _ (ha.call hS) j1.any (by omega) (by omega)).mono ?_
            rintro e u2 ⟨t2, B2, m2, e2, rfl, j2, d2⟩
            replace hS := bthen hS d2
            (replace j1 := j1.call d2); (replace pz := pz.call d2)
            first | (with_reducible refine hK.out _ _ hS (fun _ => ?_)) | (go_wp2_with fail; with_reducible refine hK.out _ _ hS (fun _ => ?_))
            clear hK K
            (try simp only [Act.put, List.setIfInBounds_toArray, List.set_cons_zero, List.set_cons_succ])
            refine wpAnyH_ready (rs := [6]) (by kernel_rfl) (by simp) ?_
            refine AllReadyH.cons (o := ⟨_, _, _, _, _, _⟩) rfl (fun K hK => ?_) AllReadyH.nil
            obtain ⟨q0, q1, f0, f1, k0, k1⟩ := pz.all (.bool t2) (.slice B2 m2 e2)
            have hSb := hS
            go_simp
            replace hS := below_stored hS hzg (.bool t2) (.slice B2 m2 e2)
            refine hK.out _ _ hS (fun _ => ?_)
            clear hK K
            (try simp only [Act.put, List.setIfInBounds_toArray, List.set_cons_zero, List.set_cons_succ])
            refine wpAnyH_done (by kernel_rfl) ?_ _
            go_wp2_with fail
            go_meet
            case rel => exact Box.stored pz j2 hSb hzg
        · go_simp
          have pz := Pr.new u0 false none 0 0
          have az := bone u0 (.cells #[.bool false, .slice none 0 0] 24)
          have hzg := hS.size
          replace hS := bthen hS az
          refine hK.out _ _ hS (fun _ => ?_)
          clear hK K az
          generalize hgz : u0.heap.size = gz at hzg pz ⊢
          clear hgz
          generalize u0.alloc (.cells #[.bool false, .slice none 0 0] 24) = u0z at *
          (try simp only [Act.put, List.setIfInBounds_toArray, List.set_cons_zero, List.set_cons_succ])
          refine wpAnyH_ready (rs := [3]) (by kernel_rfl) (by simp) ?_
          refine AllReadyH.cons (o := ⟨_, _, _, _, _, _⟩) rfl (fun K hK => ?_) AllReadyH.nil
          go_simp
          refine (add_any _ (hb.call hS) (hc.call hS) (by omega) (by omega)).mono ?_
          rintro e u1 ⟨t1, B1, m1, e1, rfl, j1, d1⟩
          replace hS := bthen hS d1
          (replace pz := pz.call d1)
          first | (with_reducible refine hK.out _ _ hS (fun _ => ?_)) | (go_wp2_with fail; with_reducible refine hK.out _ _ hS (fun _ => ?_))
          clear hK K
          have yj1 := j1.len lb
          (try simp only [Act.put, List.setIfInBounds_toArray, List.set_cons_zero, List.set_cons_succ])
          refine wpAnyH_ready (rs := [4]) (by kernel_rfl) (by simp) ?_
          refine AllReadyH.cons (o := ⟨_, _, _, _, _, _⟩) rfl (fun K hK => ?_) AllReadyH.nil
          go_simp
          refine (add_any _ (ha.call hS) j1.any (by omega) (by omega)).mono ?_
          rintro e u2 ⟨t2, B2, m2, e2, rfl, j2, d2⟩
          replace hS := bthen hS d2
          (replace j1 := j1.call d2); (replace pz := pz.call d2)
          first | (with_reducible refine hK.out _ _ hS (fun _ => ?_)) | (go_wp2_with fail; with_reducible refine hK.out _ _ hS (fun _ => ?_))
          clear hK K
          (try simp only [Act.put, List.setIfInBounds_toArray, List.set_cons_zero, List.set_cons_succ])
          refine wpAnyH_ready (rs := [6]) (by kernel_rfl) (by simp) ?_
          refine AllReadyH.cons (o := ⟨_, _, _, _, _, _⟩) rfl (fun K hK => ?_) AllReadyH.nil
          obtain ⟨q0, q1, f0, f1, k0, k1⟩ := pz.all (.bool t2) (.slice B2 m2 e2)
          have hSb := hS
          go_simp
          replace hS := below_stored hS hzg (.bool t2) (.slice B2 m2 e2)
          refine hK.out _ _ hS (fun _ => ?_)
          clear hK K
          (try simp only [Act.put, List.setIfInBounds_toArray, List.set_cons_zero, List.set_cons_succ])
          refine wpAnyH_done (by kernel_rfl) ?_ _
          go_wp2_with fail
          go_meet
          case rel => exact Box.stored pz j2 hSb hzg
      case rest =>
        obtain ⟨g2, s2, A2, n2, c2, rfl, p2, i2, b2, hg2⟩ := hcut
        obtain ⟨X2, rfl⟩ : ∃ X : World, X = wc := ⟨_, rfl⟩
        (replace pa := pa.call b2); (replace pb := pb.call b2); (replace pc := pc.call b2); (replace ha := ha.call b2); (replace hb := hb.call b2); (replace hc := hc.call b2); (replace ht := ht.call b2); (replace p1 := p1.call b2); (replace i1 := i1.call b2)
        replace bW := bthen bW b2
        clear b2 hg2
        go_upto_region 5 with (fail)
        go_cut [9] (fun v wz => Box X2 wz v (x * y * z))
        case first =>
          refine wp_region_held_drew (S := fun w' => Below X2.heap.size X2 w') (by kernel_rfl) (bdrew X2) (fun hS => ?_)
          have hS : Below X2.heap.size X2 X2.drew := bdrew X2
          generalize X2.drew = u0 at hS ⊢
          refine wpAnyH_take (i := 0) (oi := ⟨_, _, _, _, _, _⟩) (v := ?_) rfl (by kernel_rfl) (by kernel_rfl) (by kernel_rfl) (fun _ _ _ h => h) (Or.inl ⟨by rfl, ?_⟩) hS ?_
          rotate_left
          · intro w' hS'; have p' := pa.call hS'; have c0 := p'.cell0; have c1 := p'.cell1; (first | (go_simp; done) | (go_simp; with_reducible rfl) | with_reducible rfl)
          (try simp only [Act.put, List.setIfInBounds_toArray, List.set_cons_zero, List.set_cons_succ])
          refine wpAnyH_take (i := 1) (oi := ⟨_, _, _, _, _, _⟩) (v := ?_) rfl (by kernel_rfl) (by kernel_rfl) (by kernel_rfl) (fun _ _ _ h => h) (Or.inl ⟨by rfl, ?_⟩) hS ?_
          rotate_left
          · intro w' hS'; have p' := pb.call hS'; have c0 := p'.cell0; have c1 := p'.cell1; (first | (go_simp; done) | (go_simp; with_reducible rfl) | with_reducible rfl)
          (try simp only [Act.put, List.setIfInBounds_toArray, List.set_cons_zero, List.set_cons_succ])
          refine wpAnyH_take (i := 3) (oi := ⟨_, _, _, _, _, _⟩) (v := ?_) rfl (by kernel_rfl) (by kernel_rfl) (by kernel_rfl) (fun _ _ _ h => h) (Or.inl ⟨by rfl, ?_⟩) hS ?_
          rotate_left
          · intro w' hS'; have p' := pc.call hS'; have c0 := p'.cell0; have c1 := p'.cell1; (first | (go_simp; done) | (go_simp; with_reducible rfl) | with_reducible rfl)
          (try simp only [Act.put, List.setIfInBounds_toArray, List.set_cons_zero, List.set_cons_succ])
          refine wpAnyH_ready (rs := [2, 5]) (by kernel_rfl) (by simp) ?_
          refine AllReadyH.cons (o := ⟨_, _, _, _, _, _⟩) rfl (fun K hK => ?_) (AllReadyH.cons (o := ⟨_, _, _, _, _, _⟩) rfl (fun K hK => ?_) AllReadyH.nil)
          · go_simp
            refine (mul_any _ (ha.call hS) (hb.call hS) (by omega) (by omega)).mono ?_
            rintro e u1 ⟨t1, B1, m1, e1, rfl, j1, d1⟩
            replace hS := bthen hS d1
            first | (with_reducible refine hK.out _ _ hS (fun _ => ?_)) | (go_wp2_with fail; with_reducible refine hK.out _ _ hS (fun _ => ?_))
            clear hK K
            have yj1 := j1.len lc
            (try simp only [Act.put, List.setIfInBounds_toArray, List.set_cons_zero, List.set_cons_succ])
            refine wpAnyH_ready (rs := [4, 5]) (by kernel_rfl) (by simp) ?_
            refine AllReadyH.cons (o := ⟨_, _, _, _, _, _⟩) rfl (fun K hK => ?_) (AllReadyH.cons (o := ⟨_, _, _, _, _, _⟩) rfl (fun K hK => ?_) AllReadyH.nil)
            · go_simp
              refine (mul_any _ j1.any (hc.call hS) (by omega) (by omega)).mono ?_
              rintro e u2 ⟨t2, B2, m2, e2, rfl, j2, d2⟩
              replace hS := bthen hS d2
              (replace j1 := j1.call d2)
              first | (with_reducible refine hK.out _ _ hS (fun _ => ?_)) | (go_wp2_with fail; with_reducible refine hK.out _ _ hS (fun _ => ?_))
              clear hK K
              (try simp only [Act.put, List.setIfInBounds_toArray, List.set_cons_zero, List.set_cons_succ])
              refine wpAnyH_ready (rs := [5]) (by kernel_rfl) (by simp) ?_
              refine AllReadyH.cons (o := ⟨_, _, _, _, _, _⟩) rfl (fun K hK => ?_) AllReadyH.nil
              go_simp
              have pz := Pr.new u2 false none 0 0
              have az := bone u2 (.cells #[.bool false, .slice none 0 0] 24)
              have hzg := hS.size
              replace hS := bthen hS az
              (replace j1 := j1.call az); (replace j2 := j2.call az)
              refine hK.out _ _ hS (fun _ => ?_)
              clear hK K az
              generalize hgz : u2.heap.size = gz at hzg pz ⊢
              clear hgz
              generalize u2.alloc (.cells #[.bool false, .slice none 0 0] 24) = u2z at *
              (try simp only [Act.put, List.setIfInBounds_toArray, List.set_cons_zero, List.set_cons_succ])
              refine wpAnyH_ready (rs := [6]) (by kernel_rfl) (by simp) ?_
              refine AllReadyH.cons (o := ⟨_, _, _, _, _, _⟩) rfl (fun K hK => ?_) AllReadyH.nil
              obtain ⟨q0, q1, f0, f1, k0, k1⟩ := pz.all (.bool t2) (.slice B2 m2 e2)
              have hSb := hS
              go_simp
              replace hS := below_stored hS hzg (.bool t2) (.slice B2 m2 e2)
              refine hK.out _ _ hS (fun _ => ?_)
              clear hK K
              (try simp only [Act.put, List.setIfInBounds_toArray, List.set_cons_zero, List.set_cons_succ])
              refine wpAnyH_done (by kernel_rfl) ?_ _
              go_wp2_with fail
              go_meet
              case rel => exact Box.stored pz j2 hSb hzg
            · go_simp
              have pz := Pr.new u1 false none 0 0
              have az := bone u1 (.cells #[.bool false, .slice none 0 0] 24)
              have hzg := hS.size
              replace hS := bthen hS az
              (replace j1 := j1.call az)
              refine hK.out _ _ hS (fun _ => ?_)
              clear hK K az
              generalize hgz : u1.heap.size = gz at hzg pz ⊢
              clear hgz
              generalize u1.alloc (.cells #[.bool false, .slice none 0 0] 24) = u1z at *
              (try simp only [Act.put, List.setIfInBounds_toArray, List.set_cons_zero, List.set_cons_succ])
              refine wpAnyH_ready (rs := [4]) (by kernel_rfl) (by simp) ?_
              refine AllReadyH.cons (o := ⟨_, _, _, _, _, _⟩) rfl (fun K hK => ?_) AllReadyH.nil
              go_simp
              refine (mul_any _ j1.any (hc.call hS) (by omega) (by omega)).mono ?_
              rintro e u2 ⟨t2, B2, m2, e2, rfl, j2, d2⟩
              replace hS := bthen hS d2
              (replace j1 := j1.call d2); (replace pz := pz.call d2)
              first | (with_reducible refine hK.out _ _ hS (fun _ => ?_)) | (go_wp2_with fail; with_reducible refine hK.out _ _ hS (fun _ => ?_))
              clear hK K
              (try simp only [Act.put, List.setIfInBounds_toArray, List.set_cons_zero, List.set_cons_succ])
              refine wpAnyH_ready (rs := [6]) (by kernel_rfl) (by simp) ?_
              refine AllReadyH.cons (o := ⟨_, _, _, _, _, _⟩) rfl (fun K hK => ?_) AllReadyH.nil
              obtain ⟨q0, q1, f0, f1, k0, k1⟩ := pz.all (.bool t2) (.slice B2 m2 e2)
              have hSb := hS
              go_simp
              replace hS := below_stored hS hzg (.bool t2) (.slice B2 m2 e2)
              refine hK.out _ _ hS (fun _ => ?_)
              clear hK K
              (try simp only [Act.put, List.setIfInBounds_toArray, List.set_cons_zero, List.set_cons_succ])
              refine wpAnyH_done (by kernel_rfl) ?_ _
              go_wp2_with fail
              go_meet
              case rel => exact Box.stored pz j2 hSb hzg
          · go_simp
            have pz := Pr.new u0 false none 0 0
            have az := bone u0 (.cells #[.bool false, .slice none 0 0] 24)
            have hzg := hS.size
            replace hS := bthen hS az
            refine hK.out _ _ hS (fun _ => ?_)
            clear hK K az
            generalize hgz : u0.heap.size = gz at hzg pz ⊢
            clear hgz
            generalize u0.alloc (.cells #[.bool false, .slice none 0 0] 24) = u0z at *
            (try simp only [Act.put, List.setIfInBounds_toArray, List.set_cons_zero, List.set_cons_succ])
            refine wpAnyH_ready (rs := [2]) (by kernel_rfl) (by simp) ?_
            refine AllReadyH.cons (o := ⟨_, _, _, _, _, _⟩) rfl (fun K hK => ?_) AllReadyH.nil
            go_simp
            refine (mul_any _ (ha.call hS) (hb.call hS) (by omega) (by omega)).mono ?_
            rintro e u1 ⟨t1, B1, m1, e1, rfl, j1, d1⟩
            replace hS := bthen hS d1
            (replace pz := pz.call d1)
            first | (with_reducible refine hK.out _ _ hS (fun _ => ?_)) | (go_wp2_with fail; with_reducible refine hK.out _ _ hS (fun _ => ?_))
            clear hK K
            have yj1 := j1.len lc
            (try simp only [Act.put, List.setIfInBounds_toArray, List.set_cons_zero, List.set_cons_succ])
            refine wpAnyH_ready (rs := [4]) (by kernel_rfl) (by simp) ?_
            refine AllReadyH.cons (o := ⟨_, _, _, _, _, _⟩) rfl (fun K hK => ?_) AllReadyH.nil
            go_simp
            refine (mul_any _ j1.any (hc.call hS) (by omega) (by omega)).mono ?_
            rintro e u2 ⟨t2, B2, m2, e2, rfl, j2, d2⟩
            replace hS := bthen hS d2
            (replace j1 := j1.call d2); (replace pz := pz.call d2)
            first | (with_reducible refine hK.out _ _ hS (fun _ => ?_)) | (go_wp2_with fail; with_reducible refine hK.out _ _ hS (fun _ => ?_))
            clear hK K
            (try simp only [Act.put, List.setIfInBounds_toArray, List.set_cons_zero, List.set_cons_succ])
            refine wpAnyH_ready (rs := [6]) (by kernel_rfl) (by simp) ?_
            refine AllReadyH.cons (o := ⟨_, _, _, _, _, _⟩) rfl (fun K hK => ?_) AllReadyH.nil
            obtain ⟨q0, q1, f0, f1, k0, k1⟩ := pz.all (.bool t2) (.slice B2 m2 e2)
            have hSb := hS
            go_simp
            replace hS := below_stored hS hzg (.bool t2) (.slice B2 m2 e2)
            refine hK.out _ _ hS (fun _ => ?_)
            clear hK K
            (try simp only [Act.put, List.setIfInBounds_toArray, List.set_cons_zero, List.set_cons_succ])
            refine wpAnyH_done (by kernel_rfl) ?_ _
            go_wp2_with fail
            go_meet
            case rel => exact Box.stored pz j2 hSb hzg
        case rest =>
          obtain ⟨g3, s3, A3, n3, c3, rfl, p3, i3, b3, hg3⟩ := hcut
          obtain ⟨X3, rfl⟩ : ∃ X : World, X = wc := ⟨_, rfl⟩
          (replace pa := pa.call b3); (replace pb := pb.call b3); (replace pc := pc.call b3); (replace ha := ha.call b3); (replace hb := hb.call b3); (replace hc := hc.call b3); (replace ht := ht.call b3); (replace p1 := p1.call b3); (replace i1 := i1.call b3); (replace p2 := p2.call b3); (replace i2 := i2.call b3)
          replace bW := bthen bW b3
          clear b3 hg3
          go_upto_region 6 with (fail)
          go_cut [10] (fun v wz => Box X3 wz v (x * (y * z)))
          case first =>
            refine wp_region_held_drew (S := fun w' => Below X3.heap.size X3 w') (by kernel_rfl) (bdrew X3) (fun hS => ?_)
            have hS : Below X3.heap.size X3 X3.drew := bdrew X3
            generalize X3.drew = u0 at hS ⊢
            refine wpAnyH_take (i := 0) (oi := ⟨_, _, _, _, _, _⟩) (v := ?_) rfl (by kernel_rfl) (by kernel_rfl) (by kernel_rfl) (fun _ _ _ h => h) (Or.inl ⟨by rfl, ?_⟩) hS ?_
            rotate_left
            · intro w' hS'; have p' := pa.call hS'; have c0 := p'.cell0; have c1 := p'.cell1; (first | (go_simp; done) | (go_simp; with_reducible rfl) | with_reducible rfl)
            (try simp only [Act.put, List.setIfInBounds_toArray, List.set_cons_zero, List.set_cons_succ])
            refine wpAnyH_take (i := 1) (oi := ⟨_, _, _, _, _, _⟩) (v := ?_) rfl (by kernel_rfl) (by kernel_rfl) (by kernel_rfl) (fun _ _ _ h => h) (Or.inl ⟨by rfl, ?_⟩) hS ?_
            rotate_left
            · intro w' hS'; have p' := pb.call hS'; have c0 := p'.cell0; have c1 := p'.cell1; (first | (go_simp; done) | (go_simp; with_reducible rfl) | with_reducible rfl)
            (try simp only [Act.put, List.setIfInBounds_toArray, List.set_cons_zero, List.set_cons_succ])
            refine wpAnyH_take (i := 2) (oi := ⟨_, _, _, _, _, _⟩) (v := ?_) rfl (by kernel_rfl) (by kernel_rfl) (by kernel_rfl) (fun _ _ _ h => h) (Or.inl ⟨by rfl, ?_⟩) hS ?_
            rotate_left
            · intro w' hS'; have p' := pc.call hS'; have c0 := p'.cell0; have c1 := p'.cell1; (first | (go_simp; done) | (go_simp; with_reducible rfl) | with_reducible rfl)
            (try simp only [Act.put, List.setIfInBounds_toArray, List.set_cons_zero, List.set_cons_succ])
            refine wpAnyH_ready (rs := [3, 5]) (by kernel_rfl) (by simp) ?_
            refine AllReadyH.cons (o := ⟨_, _, _, _, _, _⟩) rfl (fun K hK => ?_) (AllReadyH.cons (o := ⟨_, _, _, _, _, _⟩) rfl (fun K hK => ?_) AllReadyH.nil)
            · go_simp
              refine (mul_any _ (hb.call hS) (hc.call hS) (by omega) (by omega)).mono ?_
              rintro e u1 ⟨t1, B1, m1, e1, rfl, j1, d1⟩
              replace hS := bthen hS d1
              first | (with_reducible refine hK.out _ _ hS (fun _ => ?_)) | (go_wp2_with fail; with_reducible refine hK.out _ _ hS (fun _ => ?_))
              clear hK K
              have yj1 := j1.len ld
              (try simp only [Act.put, List.setIfInBounds_toArray, List.set_cons_zero, List.set_cons_succ])
              refine wpAnyH_ready (rs := [4, 5]) (by kernel_rfl) (by simp) ?_
              refine AllReadyH.cons (o := ⟨_, _, _, _, _, _⟩) rfl (fun K hK => ?_) (AllReadyH.cons (o := ⟨_, _, _, _, _, _⟩) rfl (fun K hK => ?_) AllReadyH.nil)
              · go_simp
                refine (mul_any _ (ha.call hS) j1.any (by omega) (by omega)).mono ?_
                rintro e u2 ⟨t2, B2, m2, e2, rfl, j2, d2⟩
                replace hS := bthen hS d2
                (replace j1 := j1.call d2)
                first | (with_reducible refine hK.out _ _ hS (fun _ => ?_)) | (go_wp2_with fail; with_reducible refine hK.out _ _ hS (fun _ => ?_))
                clear hK K
                (try simp only [Act.put, List.setIfInBounds_toArray, List.set_cons_zero, List.set_cons_succ])
                refine wpAnyH_ready (rs := [5]) (by kernel_rfl) (by simp) ?_
                refine AllReadyH.cons (o := ⟨_, _, _, _, _, _⟩) rfl (fun K hK => ?_) AllReadyH.nil
                go_simp
                have pz := Pr.new u2 false none 0 0
                have az := bone u2 (.cells #[.bool false, .slice none 0 0] 24)
                have hzg := hS.size
                replace hS := bthen hS az
                (replace j1 := j1.call az); (replace j2 := j2.call az)
                refine hK.out _ _ hS (fun _ => ?_)
                clear hK K az
                generalize hgz : u2.heap.size = gz at hzg pz ⊢
                clear hgz
                generalize u2.alloc (.cells #[.bool false, .slice none 0 0] 24) = u2z at *
                (try simp only [Act.put, List.setIfInBounds_toArray, List.set_cons_zero, List.set_cons_succ])
                refine wpAnyH_ready (rs := [6]) (by kernel_rfl) (by simp) ?_
                refine AllReadyH.cons (o := ⟨_, _, _, _, _, _⟩) rfl (fun K hK => ?_) AllReadyH.nil
                obtain ⟨q0, q1, f0, f1, k0, k1⟩ := pz.all (.bool t2) (.slice B2 m2 e2)
                have hSb := hS
                go_simp
                replace hS := below_stored hS hzg (.bool t2) (.slice B2 m2 e2)
                refine hK.out _ _ hS (fun _ => ?_)
                clear hK K
                (try simp only [Act.put, List.setIfInBounds_toArray, List.set_cons_zero, List.set_cons_succ])
                refine wpAnyH_done (by kernel_rfl) ?_ _
                go_wp2_with fail
                go_meet
                case rel => exact Box.stored pz j2 hSb hzg
              · go_simp
                have pz := Pr.new u1 false none 0 0
                have az := bone u1 (.cells #[.bool false, .slice none 0 0] 24)
                have hzg := hS.size
                replace hS := bthen hS az
                (replace j1 := j1.call az)
                refine hK.out _ _ hS (fun _ => ?_)
                clear hK K az
                generalize hgz : u1.heap.size = gz at hzg pz ⊢
                clear hgz
                generalize u1.alloc (.cells #[.bool false, .slice none 0 0] 24) = u1z at *
                (try simp only [Act.put, List.setIfInBounds_toArray, List.set_cons_zero, List.set_cons_succ])
                refine wpAnyH_ready (rs := [4]) (by kernel_rfl) (by simp) ?_
                refine AllReadyH.cons (o := ⟨_, _, _, _, _, _⟩) rfl (fun K hK => ?_) AllReadyH.nil
                go_simp
                refine (mul_any _ (ha.call hS) j1.any (by omega) (by omega)).mono ?_
                rintro e u2 ⟨t2, B2, m2, e2, rfl, j2, d2⟩
                replace hS := bthen hS d2
                (replace j1 := j1.call d2); (replace pz := pz.call d2)
                first | (with_reducible refine hK.out _ _ hS (fun _ => ?_)) | (go_wp2_with fail; with_reducible refine hK.out _ _ hS (fun _ => ?_))
                clear hK K
                (try simp only [Act.put, List.setIfInBounds_toArray, List.set_cons_zero, List.set_cons_succ])
                refine wpAnyH_ready (rs := [6]) (by kernel_rfl) (by simp) ?_
                refine AllReadyH.cons (o := ⟨_, _, _, _, _, _⟩) rfl (fun K hK => ?_) AllReadyH.nil
                obtain ⟨q0, q1, f0, f1, k0, k1⟩ := pz.all (.bool t2) (.slice B2 m2 e2)
                have hSb := hS
                go_simp
                replace hS := below_stored hS hzg (.bool t2) (.slice B2 m2 e2)
                refine hK.out _ _ hS (fun _ => ?_)
                clear hK K
                (try simp only [Act.put, List.setIfInBounds_toArray, List.set_cons_zero, List.set_cons_succ])
                refine wpAnyH_done (by kernel_rfl) ?_ _
                go_wp2_with fail
                go_meet
                case rel => exact Box.stored pz j2 hSb hzg
            · go_simp
              have pz := Pr.new u0 false none 0 0
              have az := bone u0 (.cells #[.bool false, .slice none 0 0] 24)
              have hzg := hS.size
              replace hS := bthen hS az
              refine hK.out _ _ hS (fun _ => ?_)
              clear hK K az
              generalize hgz : u0.heap.size = gz at hzg pz ⊢
              clear hgz
              generalize u0.alloc (.cells #[.bool false, .slice none 0 0] 24) = u0z at *
              (try simp only [Act.put, List.setIfInBounds_toArray, List.set_cons_zero, List.set_cons_succ])
              refine wpAnyH_ready (rs := [3]) (by kernel_rfl) (by simp) ?_
              refine AllReadyH.cons (o := ⟨_, _, _, _, _, _⟩) rfl (fun K hK => ?_) AllReadyH.nil
              go_simp
              refine (mul_any _ (hb.call hS) (hc.call hS) (by omega) (by omega)).mono ?_
              rintro e u1 ⟨t1, B1, m1, e1, rfl, j1, d1⟩
              replace hS := bthen hS d1
              (replace pz := pz.call d1)
              first | (with_reducible refine hK.out _ _ hS (fun _ => ?_)) | (go_wp2_with fail; with_reducible refine hK.out _ _ hS (fun _ => ?_))
              clear hK K
              have yj1 := j1.len ld
              (try simp only [Act.put, List.setIfInBounds_toArray, List.set_cons_zero, List.set_cons_succ])
              refine wpAnyH_ready (rs := [4]) (by kernel_rfl) (by simp) ?_
              refine AllReadyH.cons (o := ⟨_, _, _, _, _, _⟩) rfl (fun K hK => ?_) AllReadyH.nil
              go_simp
              refine (mul_any _ (ha.call hS) j1.any (by omega) (by omega)).mono ?_
              rintro e u2 ⟨t2, B2, m2, e2, rfl, j2, d2⟩
              replace hS := bthen hS d2
              (replace j1 := j1.call d2); (replace pz := pz.call d2)
              first | (with_reducible refine hK.out _ _ hS (fun _ => ?_)) | (go_wp2_with fail; with_reducible refine hK.out _ _ hS (fun _ => ?_))
              clear hK K
              (try simp only [Act.put, List.setIfInBounds_toArray, List.set_cons_zero, List.set_cons_succ])
              refine wpAnyH_ready (rs := [6]) (by kernel_rfl) (by simp) ?_
              refine AllReadyH.cons (o := ⟨_, _, _, _, _, _⟩) rfl (fun K hK => ?_) AllReadyH.nil
              obtain ⟨q0, q1, f0, f1, k0, k1⟩ := pz.all (.bool t2) (.slice B2 m2 e2)
              have hSb := hS
              go_simp
              replace hS := below_stored hS hzg (.bool t2) (.slice B2 m2 e2)
              refine hK.out _ _ hS (fun _ => ?_)
              clear hK K
              (try simp only [Act.put, List.setIfInBounds_toArray, List.set_cons_zero, List.set_cons_succ])
              refine wpAnyH_done (by kernel_rfl) ?_ _
              go_wp2_with fail
              go_meet
              case rel => exact Box.stored pz j2 hSb hzg
          case rest =>
            obtain ⟨g4, s4, A4, n4, c4, rfl, p4, i4, b4, hg4⟩ := hcut
            obtain ⟨X4, rfl⟩ : ∃ X : World, X = wc := ⟨_, rfl⟩
            (replace pa := pa.call b4); (replace pb := pb.call b4); (replace pc := pc.call b4); (replace ha := ha.call b4); (replace hb := hb.call b4); (replace hc := hc.call b4); (replace ht := ht.call b4); (replace p1 := p1.call b4); (replace i1 := i1.call b4); (replace p2 := p2.call b4); (replace i2 := i2.call b4); (replace p3 := p3.call b4); (replace i3 := i3.call b4)
            replace bW := bthen bW b4
            clear b4 hg4
            go_upto_region 7 with (fail)
            go_cut [11] (fun v wz => Box X4 wz v (x * (y + z)))
            case first =>
              refine wp_region_held_drew (S := fun w' => Below X4.heap.size X4 w') (by kernel_rfl) (bdrew X4) (fun hS => ?_)
              have hS : Below X4.heap.size X4 X4.drew := bdrew X4
              generalize X4.drew = u0 at hS ⊢
              refine wpAnyH_take (i := 0) (oi := ⟨_, _, _, _, _, _⟩) (v := ?_) rfl (by kernel_rfl) (by kernel_rfl) (by kernel_rfl) (fun _ _ _ h => h) (Or.inl ⟨by rfl, ?_⟩) hS ?_
              rotate_left
              · intro w' hS'; have p' := pa.call hS'; have c0 := p'.cell0; have c1 := p'.cell1; (first | (go_simp; done) | (go_simp; with_reducible rfl) | with_reducible rfl)
              (try simp only [Act.put, List.setIfInBounds_toArray, List.set_cons_zero, List.set_cons_succ])
              refine wpAnyH_take (i := 1) (oi := ⟨_, _, _, _, _, _⟩) (v := ?_) rfl (by kernel_rfl) (by kernel_rfl) (by kernel_rfl) (fun _ _ _ h => h) (Or.inl ⟨by rfl, ?_⟩) hS ?_
              rotate_left
              · intro w' hS'; have p' := pb.call hS'; have c0 := p'.cell0; have c1 := p'.cell1; (first | (go_simp; done) | (go_simp; with_reducible rfl) | with_reducible rfl)
              (try simp only [Act.put, List.setIfInBounds_toArray, List.set_cons_zero, List.set_cons_succ])
              refine wpAnyH_take (i := 2) (oi := ⟨_, _, _, _, _, _⟩) (v := ?_) rfl (by kernel_rfl) (by kernel_rfl) (by kernel_rfl) (fun _ _ _ h => h) (Or.inl ⟨by rfl, ?_⟩) hS ?_
              rotate_left
              · intro w' hS'; have p' := pc.call hS'; have c0 := p'.cell0; have c1 := p'.cell1; (first | (go_simp; done) | (go_simp; with_reducible rfl) | with_reducible rfl)
              (try simp only [Act.put, List.setIfInBounds_toArray, List.set_cons_zero, List.set_cons_succ])
              refine wpAnyH_ready (rs := [3, 5]) (by kernel_rfl) (by simp) ?_
              refine AllReadyH.cons (o := ⟨_, _, _, _, _, _⟩) rfl (fun K hK => ?_) (AllReadyH.cons (o := ⟨_, _, _, _, _, _⟩) rfl (fun K hK => ?_) AllReadyH.nil)
              · go_simp
                refine (add_any _ (hb.call hS) (hc.call hS) (by omega) (by omega)).mono ?_
                rintro e u1 ⟨t1, B1, m1, e1, rfl, j1, d1⟩
                replace hS := bthen hS d1
                first | (with_reducible refine hK.out _ _ hS (fun _ => ?_)) | (go_wp2_with fail; with_reducible refine hK.out _ _ hS (fun _ => ?_))
                clear hK K
                have yj1 := j1.len lb
                (try simp only [Act.put, List.setIfInBounds_toArray, List.set_cons_zero, List.set_cons_succ])
                refine wpAnyH_ready (rs := [4, 5]) (by kernel_rfl) (by simp) ?_
                refine AllReadyH.cons (o := ⟨_, _, _, _, _, _⟩) rfl (fun K hK => ?_) (AllReadyH.cons (o := ⟨_, _, _, _, _, _⟩) rfl (fun K hK => ?_) AllReadyH.nil)
                · go_simp
                  refine (mul_any _ (ha.call hS) j1.any (by omega) (by omega)).mono ?_
                  rintro e u2 ⟨t2, B2, m2, e2, rfl, j2, d2⟩
                  replace hS := bthen hS d2
                  (replace j1 := j1.call d2)
                  first | (with_reducible refine hK.out _ _ hS (fun _ => ?_)) | (go_wp2_with fail; with_reducible refine hK.out _ _ hS (fun _ => ?_))
                  clear hK K
                  (try simp only [Act.put, List.setIfInBounds_toArray, List.set_cons_zero, List.set_cons_succ])
                  refine wpAnyH_ready (rs := [5]) (by kernel_rfl) (by simp) ?_
                  refine AllReadyH.cons (o := ⟨_, _, _, _, _, _⟩) rfl (fun K hK => ?_) AllReadyH.nil
                  go_simp
                  have pz := Pr.new u2 false none 0 0
                  have az := bone u2 (.cells #[.bool false, .slice none 0 0] 24)
                  have hzg := hS.size
                  replace hS := bthen hS az
                  (replace j1 := j1.call az); (replace j2 := j2.call az)
                  refine hK.out _ _ hS (fun _ => ?_)
                  clear hK K az
                  generalize hgz : u2.heap.size = gz at hzg pz ⊢
                  clear hgz
                  generalize u2.alloc (.cells #[.bool false, .slice none 0 0] 24) = u2z at *
                  (try simp only [Act.put, List.setIfInBounds_toArray, List.set_cons_zero, List.set_cons_succ])
                  refine wpAnyH_ready (rs := [6]) (by kernel_rfl) (by simp) ?_
                  refine AllReadyH.cons (o := ⟨_, _, _, _, _, _⟩) rfl (fun K hK => ?_) AllReadyH.nil
                  obtain ⟨q0, q1, f0, f1, k0, k1⟩ := pz.all (.bool t2) (.slice B2 m2 e2)
                  have hSb := hS
                  go_simp
                  replace hS := below_stored hS hzg (.bool t2) (.slice B2 m2 e2)
                  refine hK.out _ _ hS (fun _ => ?_)
                  clear hK K
                  (try simp only [Act.put, List.setIfInBounds_toArray, List.set_cons_zero, List.set_cons_succ])
                  refine wpAnyH_done (by kernel_rfl) ?_ _
                  go_wp2_with fail
                  go_meet
                  case rel => exact Box.stored pz j2 hSb hzg
                · go_simp
                  have pz := Pr.new u1 false none 0 0
                  have az := bone u1 (.cells #[.bool false, .slice none 0 0] 24)
                  have hzg := hS.size
                  replace hS := bthen hS az
                  (replace j1 := j1.call az)
                  refine hK.out _ _ hS (fun _ => ?_)
                  clear hK K az
                  generalize hgz : u1.heap.size = gz at hzg pz ⊢
                  clear hgz
                  generalize u1.alloc (.cells #[.bool false, .slice none 0 0] 24) = u1z at *
                  (try simp only [Act.put, List.setIfInBounds_toArray, List.set_cons_zero, List.set_cons_succ])
                  refine wpAnyH_ready (rs := [4]) (by kernel_rfl) (by simp) ?_
                  refine AllReadyH.cons (o := ⟨_, _, _, _, _, _⟩) rfl (fun K hK => ?_) AllReadyH.nil
                  go_simp
                  refine (mul_any _ (ha.call hS) j1.any (by omega) (by omega)).mono ?_
                  rintro e u2 ⟨t2, B2, m2, e2, rfl, j2, d2⟩
                  replace hS := bthen hS d2
                  (replace j1 := j1.call d2); (replace pz := pz.call d2)
                  first | (with_reducible refine hK.out _ _ hS (fun _ => ?_)) | (go_wp2_with fail; with_reducible refine hK.out _ _ hS (fun _ => ?_))
                  clear hK K
                  (try simp only [Act.put, List.setIfInBounds_toArray, List.set_cons_zero, List.set_cons_succ])
                  refine wpAnyH_ready (rs := [6]) (by kernel_rfl) (by simp) ?_
                  refine AllReadyH.cons (o := ⟨_, _, _, _, _, _⟩) rfl (fun K hK => ?_) AllReadyH.nil
                  obtain ⟨q0, q1, f0, f1, k0, k1⟩ := pz.all (.bool t2) (.slice B2 m2 e2)
                  have hSb := hS
                  go_simp
                  replace hS := below_stored hS hzg (.bool t2) (.slice B2 m2 e2)
                  refine hK.out _ _ hS (fun _ => ?_)
                  clear hK K
                  (try simp only [Act.put, List.setIfInBounds_toArray, List.set_cons_zero, List.set_cons_succ])
                  refine wpAnyH_done (by kernel_rfl) ?_ _
                  go_wp2_with fail
                  go_meet
                  case rel => exact Box.stored pz j2 hSb hzg
              · go_simp
                have pz := Pr.new u0 false none 0 0
                have az := bone u0 (.cells #[.bool false, .slice none 0 0] 24)
                have hzg := hS.size
                replace hS := bthen hS az
                refine hK.out _ _ hS (fun _ => ?_)
                clear hK K az
                generalize hgz : u0.heap.size = gz at hzg pz ⊢
                clear hgz
                generalize u0.alloc (.cells #[.bool false, .slice none 0 0] 24) = u0z at *
                (try simp only [Act.put, List.setIfInBounds_toArray, List.set_cons_zero, List.set_cons_succ])
                refine wpAnyH_ready (rs := [3]) (by kernel_rfl) (by simp) ?_
                refine AllReadyH.cons (o := ⟨_, _, _, _, _, _⟩) rfl (fun K hK => ?_) AllReadyH.nil
                go_simp
                refine (add_any _ (hb.call hS) (hc.call hS) (by omega) (by omega)).mono ?_
                rintro e u1 ⟨t1, B1, m1, e1, rfl, j1, d1⟩
                replace hS := bthen hS d1
                (replace pz := pz.call d1)
                first | (with_reducible refine hK.out _ _ hS (fun _ => ?_)) | (go_wp2_with fail; with_reducible refine hK.out _ _ hS (fun _ => ?_))
                clear hK K
                have yj1 := j1.len lb
                (try simp only [Act.put, List.setIfInBounds_toArray, List.set_cons_zero, List.set_cons_succ])
                refine wpAnyH_ready (rs := [4]) (by kernel_rfl) (by simp) ?_
                refine AllReadyH.cons (o := ⟨_, _, _, _, _, _⟩) rfl (fun K hK => ?_) AllReadyH.nil
                go_simp
                refine (mul_any _ (ha.call hS) j1.any (by omega) (by omega)).mono ?_
                rintro e u2 ⟨t2, B2, m2, e2, rfl, j2, d2⟩
                replace hS := bthen hS d2
                (replace j1 := j1.call d2); (replace pz := pz.call d2)
                first | (with_reducible refine hK.out _ _ hS (fun _ => ?_)) | (go_wp2_with fail; with_reducible refine hK.out _ _ hS (fun _ => ?_))
                clear hK K
                (try simp only [Act.put, List.setIfInBounds_toArray, List.set_cons_zero, List.set_cons_succ])
                refine wpAnyH_ready (rs := [6]) (by kernel_rfl) (by simp) ?_
                refine AllReadyH.cons (o := ⟨_, _, _, _, _, _⟩) rfl (fun K hK => ?_) AllReadyH.nil
                obtain ⟨q0, q1, f0, f1, k0, k1⟩ := pz.all (.bool t2) (.slice B2 m2 e2)
                have hSb := hS
                go_simp
                replace hS := below_stored hS hzg (.bool t2) (.slice B2 m2 e2)
                refine hK.out _ _ hS (fun _ => ?_)
                clear hK K
                (try simp only [Act.put, List.setIfInBounds_toArray, List.set_cons_zero, List.set_cons_succ])
                refine wpAnyH_done (by kernel_rfl) ?_ _
                go_wp2_with fail
                go_meet
                case rel => exact Box.stored pz j2 hSb hzg
            case rest =>
              obtain ⟨g5, s5, A5, n5, c5, rfl, p5, i5, b5, hg5⟩ := hcut
              obtain ⟨X5, rfl⟩ : ∃ X : World, X = wc := ⟨_, rfl⟩
              (replace pa := pa.call b5); (replace pb := pb.call b5); (replace pc := pc.call b5); (replace ha := ha.call b5); (replace hb := hb.call b5); (replace hc := hc.call b5); (replace ht := ht.call b5); (replace p1 := p1.call b5); (replace i1 := i1.call b5); (replace p2 := p2.call b5); (replace i2 := i2.call b5); (replace p3 := p3.call b5); (replace i3 := i3.call b5); (replace p4 := p4.call b5); (replace i4 := i4.call b5)
              replace bW := bthen bW b5
              clear b5 hg5
              go_upto_region 8 with (fail)
              go_cut [12] (fun v wz => Box X5 wz v (x * y + x * z))
              case first =>
                refine wp_region_held_drew (S := fun w' => Below X5.heap.size X5 w') (by kernel_rfl) (bdrew X5) (fun hS => ?_)
                have hS : Below X5.heap.size X5 X5.drew := bdrew X5
                generalize X5.drew = u0 at hS ⊢
                refine wpAnyH_take (i := 0) (oi := ⟨_, _, _, _, _, _⟩) (v := ?_) rfl (by kernel_rfl) (by kernel_rfl) (by kernel_rfl) (fun _ _ _ h => h) (Or.inl ⟨by rfl, ?_⟩) hS ?_
                rotate_left
                · intro w' hS'; have p' := pa.call hS'; have c0 := p'.cell0; have c1 := p'.cell1; (first | (go_simp; done) | (go_simp; with_reducible rfl) | with_reducible rfl)
                (try simp only [Act.put, List.setIfInBounds_toArray, List.set_cons_zero, List.set_cons_succ])
                refine wpAnyH_take (i := 1) (oi := ⟨_, _, _, _, _, _⟩) (v := ?_) rfl (by kernel_rfl) (by kernel_rfl) (by kernel_rfl) (fun _ _ _ h => h) (Or.inl ⟨by rfl, ?_⟩) hS ?_
                rotate_left
                · intro w' hS'; have p' := pb.call hS'; have c0 := p'.cell0; have c1 := p'.cell1; (first | (go_simp; done) | (go_simp; with_reducible rfl) | with_reducible rfl)
                (try simp only [Act.put, List.setIfInBounds_toArray, List.set_cons_zero, List.set_cons_succ])
                refine wpAnyH_take (i := 3) (oi := ⟨_, _, _, _, _, _⟩) (v := ?_) rfl (by kernel_rfl) (by kernel_rfl) (by kernel_rfl) (fun _ _ _ h => h) (Or.inl ⟨by rfl, ?_⟩) hS ?_
                rotate_left
                · intro w' hS'; have p' := pa.call hS'; have c0 := p'.cell0; have c1 := p'.cell1; (first | (go_simp; done) | (go_simp; with_reducible rfl) | with_reducible rfl)
                (try simp only [Act.put, List.setIfInBounds_toArray, List.set_cons_zero, List.set_cons_succ])
                refine wpAnyH_take (i := 4) (oi := ⟨_, _, _, _, _, _⟩) (v := ?_) rfl (by kernel_rfl) (by kernel_rfl) (by kernel_rfl) (fun _ _ _ h => h) (Or.inl ⟨by rfl, ?_⟩) hS ?_
                rotate_left
                · intro w' hS'; have p' := pc.call hS'; have c0 := p'.cell0; have c1 := p'.cell1; (first | (go_simp; done) | (go_simp; with_reducible rfl) | with_reducible rfl)
                (try simp only [Act.put, List.setIfInBounds_toArray, List.set_cons_zero, List.set_cons_succ])
                refine wpAnyH_ready (rs := [2, 7]) (by kernel_rfl) (by simp) ?_
                refine AllReadyH.cons (o := ⟨_, _, _, _, _, _⟩) rfl (fun K hK => ?_) (AllReadyH.cons (o := ⟨_, _, _, _, _, _⟩) rfl (fun K hK => ?_) AllReadyH.nil)
                · go_simp
                  refine (mul_any _ (ha.call hS) (hb.call hS) (by omega) (by omega)).mono ?_
                  rintro e u1 ⟨t1, B1, m1, e1, rfl, j1, d1⟩
                  replace hS := bthen hS d1
                  first | (with_reducible refine hK.out _ _ hS (fun _ => ?_)) | (go_wp2_with fail; with_reducible refine hK.out _ _ hS (fun _ => ?_))
                  clear hK K
                  have yj1 := j1.len lc
                  (try simp only [Act.put, List.setIfInBounds_toArray, List.set_cons_zero, List.set_cons_succ])
                  refine wpAnyH_ready (rs := [5, 7]) (by kernel_rfl) (by simp) ?_
                  refine AllReadyH.cons (o := ⟨_, _, _, _, _, _⟩) rfl (fun K hK => ?_) (AllReadyH.cons (o := ⟨_, _, _, _, _, _⟩) rfl (fun K hK => ?_) AllReadyH.nil)
                  · go_simp
                    refine (mul_any _ (ha.call hS) (hc.call hS) (by omega) (by omega)).mono ?_
                    rintro e u2 ⟨t2, B2, m2, e2, rfl, j2, d2⟩
                    replace hS := bthen hS d2
                    (replace j1 := j1.call d2)
                    first | (with_reducible refine hK.out _ _ hS (fun _ => ?_)) | (go_wp2_with fail; with_reducible refine hK.out _ _ hS (fun _ => ?_))
                    clear hK K
                    have yj2 := j2.len le
                    (try simp only [Act.put, List.setIfInBounds_toArray, List.set_cons_zero, List.set_cons_succ])
                    refine wpAnyH_ready (rs := [6, 7]) (by kernel_rfl) (by simp) ?_
                    refine AllReadyH.cons (o := ⟨_, _, _, _, _, _⟩) rfl (fun K hK => ?_) (AllReadyH.cons (o := ⟨_, _, _, _, _, _⟩) rfl (fun K hK => ?_) AllReadyH.nil)
                    · go_simp
                      refine (add_any _ j1.any j2.any (by omega) (by omega)).mono ?_
                      rintro e u3 ⟨t3, B3, m3, e3, rfl, j3, d3⟩
                      replace hS := bthen hS d3
                      (replace j1 := j1.call d3); (replace j2 := j2.call d3)
                      first | (with_reducible refine hK.out _ _ hS (fun _ => ?_)) | (go_wp2_with fail; with_reducible refine hK.out _ _ hS (fun _ => ?_))
                      clear hK K
                      (try simp only [Act.put, List.setIfInBounds_toArray, List.set_cons_zero, List.set_cons_succ])
                      refine wpAnyH_ready (rs := [7]) (by kernel_rfl) (by simp) ?_
                      refine AllReadyH.cons (o := ⟨_, _, _, _, _, _⟩) rfl (fun K hK => ?_) AllReadyH.nil
                      go_simp
                      have pz := Pr.new u3 false none 0 0
                      have az := bone u3 (.cells #[.bool false, .slice none 0 0] 24)
                      have hzg := hS.size
                      replace hS := bthen hS az
                      (replace j1 := j1.call az); (replace j2 := j2.call az); (replace j3 := j3.call az)
                      refine hK.out _ _ hS (fun _ => ?_)
                      clear hK K az
                      generalize hgz : u3.heap.size = gz at hzg pz ⊢
                      clear hgz
                      generalize u3.alloc (.cells #[.bool false, .slice none 0 0] 24) = u3z at *
                      (try simp only [Act.put, List.setIfInBounds_toArray, List.set_cons_zero, List.set_cons_succ])
                      refine wpAnyH_ready (rs := [8]) (by kernel_rfl) (by simp) ?_
                      refine AllReadyH.cons (o := ⟨_, _, _, _, _, _⟩) rfl (fun K hK => ?_) AllReadyH.nil
                      obtain ⟨q0, q1, f0, f1, k0, k1⟩ := pz.all (.bool t3) (.slice B3 m3 e3)
                      have hSb := hS
                      go_simp
                      replace hS := below_stored hS hzg (.bool t3) (.slice B3 m3 e3)
                      refine hK.out _ _ hS (fun _ => ?_)
                      clear hK K
                      (try simp only [Act.put, List.setIfInBounds_toArray, List.set_cons_zero, List.set_cons_succ])
                      refine wpAnyH_done (by kernel_rfl) ?_ _
                      go_wp2_with fail
                      go_meet
                      case rel => exact Box.stored pz j3 hSb hzg
                    · go_simp
                      have pz := Pr.new u2 false none 0 0
                      have az := bone u2 (.cells #[.bool false, .slice none 0 0] 24)
                      have hzg := hS.size
                      replace hS := bthen hS az
                      (replace j1 := j1.call az); (replace j2 := j2.call az)
                      refine hK.out _ _ hS (fun _ => ?_)
                      clear hK K az
                      generalize hgz : u2.heap.size = gz at hzg pz ⊢
                      clear hgz
                      generalize u2.alloc (.cells #[.bool false, .slice none 0 0] 24) = u2z at *
                      (try simp only [Act.put, List.setIfInBounds_toArray, List.set_cons_zero, List.set_cons_succ])
                      refine wpAnyH_ready (rs := [6]) (by kernel_rfl) (by simp) ?_
                      refine AllReadyH.cons (o := ⟨_, _, _, _, _, _⟩) rfl (fun K hK => ?_) AllReadyH.nil
                      go_simp
                      refine (add_any _ j1.any j2.any (by omega) (by omega)).mono ?_
                      rintro e u3 ⟨t3, B3, m3, e3, rfl, j3, d3⟩
                      replace hS := bthen hS d3
                      (replace j1 := j1.call d3); (replace j2 := j2.call d3); (replace pz := pz.call d3)
                      first | (with_reducible refine hK.out _ _ hS (fun _ => ?_)) | (go_wp2_with fail; with_reducible refine hK.out _ _ hS (fun _ => ?_))
                      clear hK K
                      (try simp only [Act.put, List.setIfInBounds_toArray, List.set_cons_zero, List.set_cons_succ])
                      refine wpAnyH_ready (rs := [8]) (by kernel_rfl) (by simp) ?_
                      refine AllReadyH.cons (o := ⟨_, _, _, _, _, _⟩) rfl (fun K hK => ?_) AllReadyH.nil
                      obtain ⟨q0, q1, f0, f1, k0, k1⟩ := pz.all (.bool t3) (.slice B3 m3 e3)
                      have hSb := hS
                      go_simp
                      replace hS := below_stored hS hzg (.bool t3) (.slice B3 m3 e3)
                      refine hK.out _ _ hS (fun _ => ?_)
                      clear hK K
                      (try simp only [Act.put, List.setIfInBounds_toArray, List.set_cons_zero, List.set_cons_succ])
                      refine wpAnyH_done (by kernel_rfl) ?_ _
                      go_wp2_with fail
                      go_meet
                      case rel => exact Box.stored pz j3 hSb hzg
                  · go_simp
                    have pz := Pr.new u1 false none 0 0
                    have az := bone u1 (.cells #[.bool false, .slice none 0 0] 24)
                    have hzg := hS.size
                    replace hS := bthen hS az
                    (replace j1 := j1.call az)
                    refine hK.out _ _ hS (fun _ => ?_)
                    clear hK K az
                    generalize hgz : u1.heap.size = gz at hzg pz ⊢
                    clear hgz
                    generalize u1.alloc (.cells #[.bool false, .slice none 0 0] 24) = u1z at *
                    (try simp only [Act.put, List.setIfInBounds_toArray, List.set_cons_zero, List.set_cons_succ])
                    refine wpAnyH_ready (rs := [5]) (by kernel_rfl) (by simp) ?_
                    refine AllReadyH.cons (o := ⟨_, _, _, _, _, _⟩) rfl (fun K hK => ?_) AllReadyH.nil
                    go_simp
                    refine (mul_any _ (ha.call hS) (hc.call hS) (by omega) (by omega)).mono ?_
                    rintro e u2 ⟨t2, B2, m2, e2, rfl, j2, d2⟩
                    replace hS := bthen hS d2
                    (replace j1 := j1.call d2); (replace pz := pz.call d2)
                    first | (with_reducible refine hK.out _ _ hS (fun _ => ?_)) | (go_wp2_with fail; with_reducible refine hK.out _ _ hS (fun _ => ?_))
                    clear hK K
                    have yj2 := j2.len le
                    (try simp only [Act.put, List.setIfInBounds_toArray, List.set_cons_zero, List.set_cons_succ])
                    refine wpAnyH_ready (rs := [6]) (by kernel_rfl) (by simp) ?_
                    refine AllReadyH.cons (o := ⟨_, _, _, _, _, _⟩) rfl (fun K hK => ?_) AllReadyH.nil
                    go_simp
                    refine (add_any _ j1.any j2.any (by omega) (by omega)).mono ?_
                    rintro e u3 ⟨t3, B3, m3, e3, rfl, j3, d3⟩
                    replace hS := bthen hS d3
                    (replace j1 := j1.call d3); (replace j2 := j2.call d3); (replace pz := pz.call d3)
                    first | (with_reducible refine hK.out _ _ hS (fun _ => ?_)) | (go_wp2_with fail; with_reducible refine hK.out _ _ hS (fun _ => ?_))
                    clear hK K
                    (try simp only [Act.put, List.setIfInBounds_toArray, List.set_cons_zero, List.set_cons_succ])
                    refine wpAnyH_ready (rs := [8]) (by kernel_rfl) (by simp) ?_
                    refine AllReadyH.cons (o := ⟨_, _, _, _, _, _⟩) rfl (fun K hK => ?_) AllReadyH.nil
                    obtain ⟨q0, q1, f0, f1, k0, k1⟩ := pz.all (.bool t3) (.slice B3 m3 e3)
                    have hSb := hS
                    go_simp
                    replace hS := below_stored hS hzg (.bool t3) (.slice B3 m3 e3)
                    refine hK.out _ _ hS (fun _ => ?_)
                    clear hK K
                    (try simp only [Act.put, List.setIfInBounds_toArray, List.set_cons_zero, List.set_cons_succ])
                    refine wpAnyH_done (by kernel_rfl) ?_ _
                    go_wp2_with fail
                    go_meet
                    case rel => exact Box.stored pz j3 hSb hzg
                · go_simp
                  have pz := Pr.new u0 false none 0 0
                  have az := bone u0 (.cells #[.bool false, .slice none 0 0] 24)
                  have hzg := hS.size
                  replace hS := bthen hS az
                  refine hK.out _ _ hS (fun _ => ?_)
                  clear hK K az
                  generalize hgz : u0.heap.size = gz at hzg pz ⊢
                  clear hgz
                  generalize u0.alloc (.cells #[.bool false, .slice none 0 0] 24) = u0z at *
                  (try simp only [Act.put, List.setIfInBounds_toArray, List.set_cons_zero, List.set_cons_succ])
                  refine wpAnyH_ready (rs := [2]) (by kernel_rfl) (by simp) ?_
                  refine AllReadyH.cons (o := ⟨_, _, _, _, _, _⟩) rfl (fun K hK => ?_) AllReadyH.nil
                  go_simp
                  refine (mul_any _ (ha.call hS) (hb.call hS) (by omega) (by omega)).mono ?_
                  rintro e u1 ⟨t1, B1, m1, e1, rfl, j1, d1⟩
                  replace hS := bthen hS d1
                  (replace pz := pz.call d1)
                  first | (with_reducible refine hK.out _ _ hS (fun _ => ?_)) | (go_wp2_with fail; with_reducible refine hK.out _ _ hS (fun _ => ?_))
                  clear hK K
                  have yj1 := j1.len lc
                  (try simp only [Act.put, List.setIfInBounds_toArray, List.set_cons_zero, List.set_cons_succ])
                  refine wpAnyH_ready (rs := [5]) (by kernel_rfl) (by simp) ?_
                  refine AllReadyH.cons (o := ⟨_, _, _, _, _, _⟩) rfl (fun K hK => ?_) AllReadyH.nil
                  go_simp
                  refine (mul_any _ (ha.call hS) (hc.call hS) (by omega) (by omega)).mono ?_
                  rintro e u2 ⟨t2, B2, m2, e2, rfl, j2, d2⟩
                  replace hS := bthen hS d2
                  (replace j1 := j1.call d2); (replace pz := pz.call d2)
                  first | (with_reducible refine hK.out _ _ hS (fun _ => ?_)) | (go_wp2_with fail; with_reducible refine hK.out _ _ hS (fun _ => ?_))
                  clear hK K
                  have yj2 := j2.len le
                  (try simp only [Act.put, List.setIfInBounds_toArray, List.set_cons_zero, List.set_cons_succ])
                  refine wpAnyH_ready (rs := [6]) (by kernel_rfl) (by simp) ?_
                  refine AllReadyH.cons (o := ⟨_, _, _, _, _, _⟩) rfl (fun K hK => ?_) AllReadyH.nil
                  go_simp
                  refine (add_any _ j1.any j2.any (by omega) (by omega)).mono ?_
                  rintro e u3 ⟨t3, B3, m3, e3, rfl, j3, d3⟩
                  replace hS := bthen hS d3
                  (replace j1 := j1.call d3); (replace j2 := j2.call d3); (replace pz := pz.call d3)
                  first | (with_reducible refine hK.out _ _ hS (fun _ => ?_)) | (go_wp2_with fail; with_reducible refine hK.out _ _ hS (fun _ => ?_))
                  clear hK K
                  (try simp only [Act.put, List.setIfInBounds_toArray, List.set_cons_zero, List.set_cons_succ])
                  refine wpAnyH_ready (rs := [8]) (by kernel_rfl) (by simp) ?_
                  refine AllReadyH.cons (o := ⟨_, _, _, _, _, _⟩) rfl (fun K hK => ?_) AllReadyH.nil
                  obtain ⟨q0, q1, f0, f1, k0, k1⟩ := pz.all (.bool t3) (.slice B3 m3 e3)
                  have hSb := hS
                  go_simp
                  replace hS := below_stored hS hzg (.bool t3) (.slice B3 m3 e3)
                  refine hK.out _ _ hS (fun _ => ?_)
                  clear hK K
                  (try simp only [Act.put, List.setIfInBounds_toArray, List.set_cons_zero, List.set_cons_succ])
                  refine wpAnyH_done (by kernel_rfl) ?_ _
                  go_wp2_with fail
                  go_meet
                  case rel => exact Box.stored pz j3 hSb hzg
              case rest =>
                obtain ⟨g6, s6, A6, n6, c6, rfl, p6, i6, b6, hg6⟩ := hcut
                obtain ⟨X6, rfl⟩ : ∃ X : World, X = wc := ⟨_, rfl⟩
                (replace pa := pa.call b6); (replace pb := pb.call b6); (replace pc := pc.call b6); (replace ha := ha.call b6); (replace hb := hb.call b6); (replace hc := hc.call b6); (replace ht := ht.call b6); (replace p1 := p1.call b6); (replace i1 := i1.call b6); (replace p2 := p2.call b6); (replace i2 := i2.call b6); (replace p3 := p3.call b6); (replace i3 := i3.call b6); (replace p4 := p4.call b6); (replace i4 := i4.call b6); (replace p5 := p5.call b6); (replace i5 := i5.call b6)
                replace bW := bthen bW b6
                clear b6 hg6
                have h1 := Lib.hid (Int.add_assoc x y z)
                have h2 := Lib.hid (Int.mul_assoc x y z)
                have h3 := Lib.hid (Int.mul_add x y z)
                have h4 := Lib.hid (Int.add_comm x y)
                have h5 := Lib.hid (Int.mul_comm x y)
                have h6 : Hid ((x - x).sign = 0) := by unfold Hid; rw [Int.sub_self]; rfl
                have lm : Lim 61 (x - x) := lx.sub lx
                go_wp2_with fail
                refine wp_region_held_drew (S := fun w' => Below X6.heap.size X6 w') (by kernel_rfl) (bdrew X6) (fun hS => ?_)
                have hS : Below X6.heap.size X6 X6.drew := bdrew X6
                generalize X6.drew = u0 at hS ⊢
                refine wpAnyH_take (i := 0) (oi := ⟨_, _, _, _, _, _⟩) (v := ?_) rfl (by kernel_rfl) (by kernel_rfl) (by kernel_rfl) (fun _ _ _ h => h) (Or.inl ⟨by rfl, ?_⟩) hS ?_
                rotate_left
                · intro w' hS'; have p' := p1.call hS'; have c0 := p'.cell0; have c1 := p'.cell1; (first | (go_simp; done) | (go_simp; with_reducible rfl) | with_reducible rfl)
                (try simp only [Act.put, List.setIfInBounds_toArray, List.set_cons_zero, List.set_cons_succ])
                refine wpAnyH_take (i := 1) (oi := ⟨_, _, _, _, _, _⟩) (v := ?_) rfl (by kernel_rfl) (by kernel_rfl) (by kernel_rfl) (fun _ _ _ h => h) (Or.inl ⟨by rfl, ?_⟩) hS ?_
                rotate_left
                · intro w' hS'; have p' := p2.call hS'; have c0 := p'.cell0; have c1 := p'.cell1; (first | (go_simp; done) | (go_simp; with_reducible rfl) | with_reducible rfl)
                (try simp only [Act.put, List.setIfInBounds_toArray, List.set_cons_zero, List.set_cons_succ])
                refine wpAnyH_ready (rs := [2]) (by kernel_rfl) (by simp) ?_
                refine AllReadyH.cons (o := ⟨_, _, _, _, _, _⟩) rfl (fun K hK => ?_) AllReadyH.nil
                go_simp
                refine (same_true _ (i1.call hS) (i2.call hS) h1.out).mono ?_
                rintro e u1 ⟨rfl, d1⟩
                replace hS := bthen hS d1
                first | (with_reducible refine hK.out _ _ hS (fun _ => ?_)) | (go_wp2_with fail; with_reducible refine hK.out _ _ hS (fun _ => ?_))
                clear hK K
                (try simp only [Act.put, List.setIfInBounds_toArray, List.set_cons_zero, List.set_cons_succ])
                refine wpAnyH_take (i := 3) (oi := ⟨_, _, _, _, _, _⟩) (v := ?_) rfl (by kernel_rfl) (by kernel_rfl) (by kernel_rfl) (fun _ _ _ h => h) (Or.inl ⟨by rfl, ?_⟩) hS ?_
                rotate_left
                · intro w' hS'; (first | (go_simp; done) | (go_simp; with_reducible rfl) | with_reducible rfl)
                (try simp only [Act.put, List.setIfInBounds_toArray, List.set_cons_zero, List.set_cons_succ])
                refine wpAnyH_take (i := 4) (oi := ⟨_, _, _, _, _, _⟩) (v := ?_) rfl (by kernel_rfl) (by kernel_rfl) (by kernel_rfl) (fun _ _ _ h => h) (Or.inl ⟨by rfl, ?_⟩) hS ?_
                rotate_left
                · intro w' hS'; have p' := p3.call hS'; have c0 := p'.cell0; have c1 := p'.cell1; (first | (go_simp; done) | (go_simp; with_reducible rfl) | with_reducible rfl)
                (try simp only [Act.put, List.setIfInBounds_toArray, List.set_cons_zero, List.set_cons_succ])
                refine wpAnyH_take (i := 5) (oi := ⟨_, _, _, _, _, _⟩) (v := ?_) rfl (by kernel_rfl) (by kernel_rfl) (by kernel_rfl) (fun _ _ _ h => h) (Or.inl ⟨by rfl, ?_⟩) hS ?_
                rotate_left
                · intro w' hS'; have p' := p4.call hS'; have c0 := p'.cell0; have c1 := p'.cell1; (first | (go_simp; done) | (go_simp; with_reducible rfl) | with_reducible rfl)
                (try simp only [Act.put, List.setIfInBounds_toArray, List.set_cons_zero, List.set_cons_succ])
                refine wpAnyH_ready (rs := [6]) (by kernel_rfl) (by simp) ?_
                refine AllReadyH.cons (o := ⟨_, _, _, _, _, _⟩) rfl (fun K hK => ?_) AllReadyH.nil
                go_simp
                refine (same_true _ (i3.call hS) (i4.call hS) h2.out).mono ?_
                rintro e u2 ⟨rfl, d2⟩
                replace hS := bthen hS d2
                first | (with_reducible refine hK.out _ _ hS (fun _ => ?_)) | (go_wp2_with fail; with_reducible refine hK.out _ _ hS (fun _ => ?_))
                clear hK K
                (try simp only [Act.put, List.setIfInBounds_toArray, List.set_cons_zero, List.set_cons_succ])
                refine wpAnyH_take (i := 7) (oi := ⟨_, _, _, _, _, _⟩) (v := ?_) rfl (by kernel_rfl) (by kernel_rfl) (by kernel_rfl) (fun _ _ _ h => h) (Or.inl ⟨by rfl, ?_⟩) hS ?_
                rotate_left
                · intro w' hS'; (first | (go_simp; done) | (go_simp; with_reducible rfl) | with_reducible rfl)
                (try simp only [Act.put, List.setIfInBounds_toArray, List.set_cons_zero, List.set_cons_succ])
                refine wpAnyH_take (i := 8) (oi := ⟨_, _, _, _, _, _⟩) (v := ?_) rfl (by kernel_rfl) (by kernel_rfl) (by kernel_rfl) (fun _ _ _ h => h) (Or.inl ⟨by rfl, ?_⟩) hS ?_
                rotate_left
                · intro w' hS'; (first | (go_simp; done) | (go_simp; with_reducible rfl) | with_reducible rfl)
                (try simp only [Act.put, List.setIfInBounds_toArray, List.set_cons_zero, List.set_cons_succ])
                refine wpAnyH_take (i := 9) (oi := ⟨_, _, _, _, _, _⟩) (v := ?_) rfl (by kernel_rfl) (by kernel_rfl) (by kernel_rfl) (fun _ _ _ h => h) (Or.inl ⟨by rfl, ?_⟩) hS ?_
                rotate_left
                · intro w' hS'; have p' := p5.call hS'; have c0 := p'.cell0; have c1 := p'.cell1; (first | (go_simp; done) | (go_simp; with_reducible rfl) | with_reducible rfl)
                (try simp only [Act.put, List.setIfInBounds_toArray, List.set_cons_zero, List.set_cons_succ])
                refine wpAnyH_take (i := 10) (oi := ⟨_, _, _, _, _, _⟩) (v := ?_) rfl (by kernel_rfl) (by kernel_rfl) (by kernel_rfl) (fun _ _ _ h => h) (Or.inl ⟨by rfl, ?_⟩) hS ?_
                rotate_left
                · intro w' hS'; have p' := p6.call hS'; have c0 := p'.cell0; have c1 := p'.cell1; (first | (go_simp; done) | (go_simp; with_reducible rfl) | with_reducible rfl)
                (try simp only [Act.put, List.setIfInBounds_toArray, List.set_cons_zero, List.set_cons_succ])
                refine wpAnyH_ready (rs := [11]) (by kernel_rfl) (by simp) ?_
                refine AllReadyH.cons (o := ⟨_, _, _, _, _, _⟩) rfl (fun K hK => ?_) AllReadyH.nil
                go_simp
                refine (same_true _ (i5.call hS) (i6.call hS) h3.out).mono ?_
                rintro e u3 ⟨rfl, d3⟩
                replace hS := bthen hS d3
                first | (with_reducible refine hK.out _ _ hS (fun _ => ?_)) | (go_wp2_with fail; with_reducible refine hK.out _ _ hS (fun _ => ?_))
                clear hK K
                (try simp only [Act.put, List.setIfInBounds_toArray, List.set_cons_zero, List.set_cons_succ])
                refine wpAnyH_take (i := 12) (oi := ⟨_, _, _, _, _, _⟩) (v := ?_) rfl (by kernel_rfl) (by kernel_rfl) (by kernel_rfl) (fun _ _ _ h => h) (Or.inl ⟨by rfl, ?_⟩) hS ?_
                rotate_left
                · intro w' hS'; (first | (go_simp; done) | (go_simp; with_reducible rfl) | with_reducible rfl)
                (try simp only [Act.put, List.setIfInBounds_toArray, List.set_cons_zero, List.set_cons_succ])
                refine wpAnyH_take (i := 13) (oi := ⟨_, _, _, _, _, _⟩) (v := ?_) rfl (by kernel_rfl) (by kernel_rfl) (by kernel_rfl) (fun _ _ _ h => h) (Or.inl ⟨by rfl, ?_⟩) hS ?_
                rotate_left
                · intro w' hS'; (first | (go_simp; done) | (go_simp; with_reducible rfl) | with_reducible rfl)
                (try simp only [Act.put, List.setIfInBounds_toArray, List.set_cons_zero, List.set_cons_succ])
                refine wpAnyH_take (i := 14) (oi := ⟨_, _, _, _, _, _⟩) (v := ?_) rfl (by kernel_rfl) (by kernel_rfl) (by kernel_rfl) (fun _ _ _ h => h) (Or.inl ⟨by rfl, ?_⟩) hS ?_
                rotate_left
                · intro w' hS'; have p' := pa.call hS'; have c0 := p'.cell0; have c1 := p'.cell1; (first | (go_simp; done) | (go_simp; with_reducible rfl) | with_reducible rfl)
                (try simp only [Act.put, List.setIfInBounds_toArray, List.set_cons_zero, List.set_cons_succ])
                refine wpAnyH_take (i := 15) (oi := ⟨_, _, _, _, _, _⟩) (v := ?_) rfl (by kernel_rfl) (by kernel_rfl) (by kernel_rfl) (fun _ _ _ h => h) (Or.inl ⟨by rfl, ?_⟩) hS ?_
                rotate_left
                · intro w' hS'; have p' := pb.call hS'; have c0 := p'.cell0; have c1 := p'.cell1; (first | (go_simp; done) | (go_simp; with_reducible rfl) | with_reducible rfl)
                (try simp only [Act.put, List.setIfInBounds_toArray, List.set_cons_zero, List.set_cons_succ])
                refine wpAnyH_take (i := 17) (oi := ⟨_, _, _, _, _, _⟩) (v := ?_) rfl (by kernel_rfl) (by kernel_rfl) (by kernel_rfl) (fun _ _ _ h => h) (Or.inl ⟨by rfl, ?_⟩) hS ?_
                rotate_left
                · intro w' hS'; have p' := pb.call hS'; have c0 := p'.cell0; have c1 := p'.cell1; (first | (go_simp; done) | (go_simp; with_reducible rfl) | with_reducible rfl)
                (try simp only [Act.put, List.setIfInBounds_toArray, List.set_cons_zero, List.set_cons_succ])
                refine wpAnyH_take (i := 18) (oi := ⟨_, _, _, _, _, _⟩) (v := ?_) rfl (by kernel_rfl) (by kernel_rfl) (by kernel_rfl) (fun _ _ _ h => h) (Or.inl ⟨by rfl, ?_⟩) hS ?_
                rotate_left
                · intro w' hS'; have p' := pa.call hS'; have c0 := p'.cell0; have c1 := p'.cell1; (first | (go_simp; done) | (go_simp; with_reducible rfl) | with_reducible rfl)
                (try simp only [Act.put, List.setIfInBounds_toArray, List.set_cons_zero, List.set_cons_succ])
                refine wpAnyH_ready (rs := [16]) (by kernel_rfl) (by simp) ?_
                refine AllReadyH.cons (o := ⟨_, _, _, _, _, _⟩) rfl (fun K hK => ?_) AllReadyH.nil
                go_simp
                refine (add_any _ (ha.call hS) (hb.call hS) (by omega) (by omega)).mono ?_
                rintro e u4 ⟨t1, B1, m1, e1, rfl, j1, d4⟩
                replace hS := bthen hS d4
                first | (with_reducible refine hK.out _ _ hS (fun _ => ?_)) | (go_wp2_with fail; with_reducible refine hK.out _ _ hS (fun _ => ?_))
                clear hK K
                (try simp only [Act.put, List.setIfInBounds_toArray, List.set_cons_zero, List.set_cons_succ])
                refine wpAnyH_ready (rs := [19]) (by kernel_rfl) (by simp) ?_
                refine AllReadyH.cons (o := ⟨_, _, _, _, _, _⟩) rfl (fun K hK => ?_) AllReadyH.nil
                go_simp
                refine (add_any _ (hb.call hS) (ha.call hS) (by omega) (by omega)).mono ?_
                rintro e u5 ⟨t2, B2, m2, e2, rfl, j2, d5⟩
                replace hS := bthen hS d5
                (replace j1 := j1.call d5)
                first | (with_reducible refine hK.out _ _ hS (fun _ => ?_)) | (go_wp2_with fail; with_reducible refine hK.out _ _ hS (fun _ => ?_))
                clear hK K
                (try simp only [Act.put, List.setIfInBounds_toArray, List.set_cons_zero, List.set_cons_succ])
                refine wpAnyH_ready (rs := [20]) (by kernel_rfl) (by simp) ?_
                refine AllReadyH.cons (o := ⟨_, _, _, _, _, _⟩) rfl (fun K hK => ?_) AllReadyH.nil
                go_simp
                refine (same_true _ j1 j2 h4.out).mono ?_
                rintro e u6 ⟨rfl, d6⟩
                replace hS := bthen hS d6
                (replace j1 := j1.call d6); (replace j2 := j2.call d6)
                first | (with_reducible refine hK.out _ _ hS (fun _ => ?_)) | (go_wp2_with fail; with_reducible refine hK.out _ _ hS (fun _ => ?_))
                clear hK K
                (try simp only [Act.put, List.setIfInBounds_toArray, List.set_cons_zero, List.set_cons_succ])
                refine wpAnyH_take (i := 21) (oi := ⟨_, _, _, _, _, _⟩) (v := ?_) rfl (by kernel_rfl) (by kernel_rfl) (by kernel_rfl) (fun _ _ _ h => h) (Or.inl ⟨by rfl, ?_⟩) hS ?_
                rotate_left
                · intro w' hS'; (first | (go_simp; done) | (go_simp; with_reducible rfl) | with_reducible rfl)
                (try simp only [Act.put, List.setIfInBounds_toArray, List.set_cons_zero, List.set_cons_succ])
                refine wpAnyH_take (i := 22) (oi := ⟨_, _, _, _, _, _⟩) (v := ?_) rfl (by kernel_rfl) (by kernel_rfl) (by kernel_rfl) (fun _ _ _ h => h) (Or.inl ⟨by rfl, ?_⟩) hS ?_
                rotate_left
                · intro w' hS'; (first | (go_simp; done) | (go_simp; with_reducible rfl) | with_reducible rfl)
                (try simp only [Act.put, List.setIfInBounds_toArray, List.set_cons_zero, List.set_cons_succ])
                refine wpAnyH_take (i := 23) (oi := ⟨_, _, _, _, _, _⟩) (v := ?_) rfl (by kernel_rfl) (by kernel_rfl) (by kernel_rfl) (fun _ _ _ h => h) (Or.inl ⟨by rfl, ?_⟩) hS ?_
                rotate_left
                · intro w' hS'; have p' := pa.call hS'; have c0 := p'.cell0; have c1 := p'.cell1; (first | (go_simp; done) | (go_simp; with_reducible rfl) | with_reducible rfl)
                (try simp only [Act.put, List.setIfInBounds_toArray, List.set_cons_zero, List.set_cons_succ])
                refine wpAnyH_take (i := 24) (oi := ⟨_, _, _, _, _, _⟩) (v := ?_) rfl (by kernel_rfl) (by kernel_rfl) (by kernel_rfl) (fun _ _ _ h => h) (Or.inl ⟨by rfl, ?_⟩) hS ?_
                rotate_left
                · intro w' hS'; have p' := pb.call hS'; have c0 := p'.cell0; have c1 := p'.cell1; (first | (go_simp; done) | (go_simp; with_reducible rfl) | with_reducible rfl)
                (try simp only [Act.put, List.setIfInBounds_toArray, List.set_cons_zero, List.set_cons_succ])
                refine wpAnyH_take (i := 26) (oi := ⟨_, _, _, _, _, _⟩) (v := ?_) rfl (by kernel_rfl) (by kernel_rfl) (by kernel_rfl) (fun _ _ _ h => h) (Or.inl ⟨by rfl, ?_⟩) hS ?_
                rotate_left
                · intro w' hS'; have p' := pb.call hS'; have c0 := p'.cell0; have c1 := p'.cell1; (first | (go_simp; done) | (go_simp; with_reducible rfl) | with_reducible rfl)
                (try simp only [Act.put, List.setIfInBounds_toArray, List.set_cons_zero, List.set_cons_succ])
                refine wpAnyH_take (i := 27) (oi := ⟨_, _, _, _, _, _⟩) (v := ?_) rfl (by kernel_rfl) (by kernel_rfl) (by kernel_rfl) (fun _ _ _ h => h) (Or.inl ⟨by rfl, ?_⟩) hS ?_
                rotate_left
                · intro w' hS'; have p' := pa.call hS'; have c0 := p'.cell0; have c1 := p'.cell1; (first | (go_simp; done) | (go_simp; with_reducible rfl) | with_reducible rfl)
                (try simp only [Act.put, List.setIfInBounds_toArray, List.set_cons_zero, List.set_cons_succ])
                refine wpAnyH_ready (rs := [25]) (by kernel_rfl) (by simp) ?_
                refine AllReadyH.cons (o := ⟨_, _, _, _, _, _⟩) rfl (fun K hK => ?_) AllReadyH.nil
                go_simp
                refine (mul_any _ (ha.call hS) (hb.call hS) (by omega) (by omega)).mono ?_
                rintro e u7 ⟨t3, B3, m3, e3, rfl, j3, d7⟩
                replace hS := bthen hS d7
                (replace j1 := j1.call d7); (replace j2 := j2.call d7)
                first | (with_reducible refine hK.out _ _ hS (fun _ => ?_)) | (go_wp2_with fail; with_reducible refine hK.out _ _ hS (fun _ => ?_))
                clear hK K
                (try simp only [Act.put, List.setIfInBounds_toArray, List.set_cons_zero, List.set_cons_succ])
                refine wpAnyH_ready (rs := [28]) (by kernel_rfl) (by simp) ?_
                refine AllReadyH.cons (o := ⟨_, _, _, _, _, _⟩) rfl (fun K hK => ?_) AllReadyH.nil
                go_simp
                refine (mul_any _ (hb.call hS) (ha.call hS) (by omega) (by omega)).mono ?_
                rintro e u8 ⟨t4, B4, m4, e4, rfl, j4, d8⟩
                replace hS := bthen hS d8
                (replace j1 := j1.call d8); (replace j2 := j2.call d8); (replace j3 := j3.call d8)
                first | (with_reducible refine hK.out _ _ hS (fun _ => ?_)) | (go_wp2_with fail; with_reducible refine hK.out _ _ hS (fun _ => ?_))
                clear hK K
                (try simp only [Act.put, List.setIfInBounds_toArray, List.set_cons_zero, List.set_cons_succ])
                refine wpAnyH_ready (rs := [29]) (by kernel_rfl) (by simp) ?_
                refine AllReadyH.cons (o := ⟨_, _, _, _, _, _⟩) rfl (fun K hK => ?_) AllReadyH.nil
                go_simp
                refine (same_true _ j3 j4 h5.out).mono ?_
                rintro e u9 ⟨rfl, d9⟩
                replace hS := bthen hS d9
                (replace j1 := j1.call d9); (replace j2 := j2.call d9); (replace j3 := j3.call d9); (replace j4 := j4.call d9)
                first | (with_reducible refine hK.out _ _ hS (fun _ => ?_)) | (go_wp2_with fail; with_reducible refine hK.out _ _ hS (fun _ => ?_))
                clear hK K
                (try simp only [Act.put, List.setIfInBounds_toArray, List.set_cons_zero, List.set_cons_succ])
                refine wpAnyH_take (i := 30) (oi := ⟨_, _, _, _, _, _⟩) (v := ?_) rfl (by kernel_rfl) (by kernel_rfl) (by kernel_rfl) (fun _ _ _ h => h) (Or.inl ⟨by rfl, ?_⟩) hS ?_
                rotate_left
                · intro w' hS'; (first | (go_simp; done) | (go_simp; with_reducible rfl) | with_reducible rfl)
                (try simp only [Act.put, List.setIfInBounds_toArray, List.set_cons_zero, List.set_cons_succ])
                refine wpAnyH_take (i := 31) (oi := ⟨_, _, _, _, _, _⟩) (v := ?_) rfl (by kernel_rfl) (by kernel_rfl) (by kernel_rfl) (fun _ _ _ h => h) (Or.inl ⟨by rfl, ?_⟩) hS ?_
                rotate_left
                · intro w' hS'; (first | (go_simp; done) | (go_simp; with_reducible rfl) | with_reducible rfl)
                (try simp only [Act.put, List.setIfInBounds_toArray, List.set_cons_zero, List.set_cons_succ])
                refine wpAnyH_take (i := 32) (oi := ⟨_, _, _, _, _, _⟩) (v := ?_) rfl (by kernel_rfl) (by kernel_rfl) (by kernel_rfl) (fun _ _ _ h => h) (Or.inl ⟨by rfl, ?_⟩) hS ?_
                rotate_left
                · intro w' hS'; have p' := pa.call hS'; have c0 := p'.cell0; have c1 := p'.cell1; (first | (go_simp; done) | (go_simp; with_reducible rfl) | with_reducible rfl)
                (try simp only [Act.put, List.setIfInBounds_toArray, List.set_cons_zero, List.set_cons_succ])
                refine wpAnyH_take (i := 33) (oi := ⟨_, _, _, _, _, _⟩) (v := ?_) rfl (by kernel_rfl) (by kernel_rfl) (by kernel_rfl) (fun _ _ _ h => h) (Or.inl ⟨by rfl, ?_⟩) hS ?_
                rotate_left
                · intro w' hS'; have p' := pa.call hS'; have c0 := p'.cell0; have c1 := p'.cell1; (first | (go_simp; done) | (go_simp; with_reducible rfl) | with_reducible rfl)
                (try simp only [Act.put, List.setIfInBounds_toArray, List.set_cons_zero, List.set_cons_succ])
                refine wpAnyH_ready (rs := [34]) (by kernel_rfl) (by simp) ?_
                refine AllReadyH.cons (o := ⟨_, _, _, _, _, _⟩) rfl (fun K hK => ?_) AllReadyH.nil
                go_simp
                refine (sub_any _ (ha.call hS) (ha.call hS) (by omega) (by omega)).mono ?_
                rintro e u10 ⟨t5, B5, m5, e5, rfl, j5, d10⟩
                replace hS := bthen hS d10
                (replace j1 := j1.call d10); (replace j2 := j2.call d10); (replace j3 := j3.call d10); (replace j4 := j4.call d10)
                first | (with_reducible refine hK.out _ _ hS (fun _ => ?_)) | (go_wp2_with fail; with_reducible refine hK.out _ _ hS (fun _ => ?_))
                clear hK K
                (try simp only [Act.put, List.setIfInBounds_toArray, List.set_cons_zero, List.set_cons_succ])
                refine wpAnyH_ready (rs := [35]) (by kernel_rfl) (by simp) ?_
                refine AllReadyH.cons (o := ⟨_, _, _, _, _, _⟩) rfl (fun K hK => ?_) AllReadyH.nil
                go_simp
                refine (sign_is 0 _ j5.any h6.out).mono ?_
                rintro e u11 ⟨rfl, d11⟩
                replace hS := bthen hS d11
                (replace j1 := j1.call d11); (replace j2 := j2.call d11); (replace j3 := j3.call d11); (replace j4 := j4.call d11); (replace j5 := j5.call d11)
                first | (with_reducible refine hK.out _ _ hS (fun _ => ?_)) | (go_wp2_with fail; with_reducible refine hK.out _ _ hS (fun _ => ?_))
                clear hK K
                (try simp only [Act.put, List.setIfInBounds_toArray, List.set_cons_zero, List.set_cons_succ])
                refine wpAnyH_take (i := 36) (oi := ⟨_, _, _, _, _, _⟩) (v := ?_) rfl (by kernel_rfl) (by kernel_rfl) (by kernel_rfl) (fun _ _ _ h => h) (Or.inl ⟨by rfl, ?_⟩) hS ?_
                rotate_left
                · intro w' hS'; (first | (go_simp; done) | (go_simp; with_reducible rfl) | with_reducible rfl)
                (try simp only [Act.put, List.setIfInBounds_toArray, List.set_cons_zero, List.set_cons_succ])
                refine wpAnyH_take (i := 37) (oi := ⟨_, _, _, _, _, _⟩) (v := ?_) rfl (by kernel_rfl) (by kernel_rfl) (by kernel_rfl) (fun _ _ _ h => h) (Or.inl ⟨by rfl, ?_⟩) hS ?_
                rotate_left
                · intro w' hS'; (first | (go_simp; done) | (go_simp; with_reducible rfl) | with_reducible rfl)
                (try simp only [Act.put, List.setIfInBounds_toArray, List.set_cons_zero, List.set_cons_succ])
                refine wpAnyH_take (i := 38) (oi := ⟨_, _, _, _, _, _⟩) (v := ?_) rfl (by kernel_rfl) (by kernel_rfl) (by kernel_rfl) (fun _ _ _ h => h) (Or.inl ⟨by rfl, ?_⟩) hS ?_
                rotate_left
                · intro w' hS'; (first | (go_simp; done) | (go_simp; with_reducible rfl) | with_reducible rfl)
                (try simp only [Act.put, List.setIfInBounds_toArray, List.set_cons_zero, List.set_cons_succ])
                refine wpAnyH_ready (rs := [39]) (by kernel_rfl) (by simp) ?_
                refine AllReadyH.cons (o := ⟨_, _, _, _, _, _⟩) rfl (fun K hK => ?_) AllReadyH.nil
                go_simp
                refine (awake_any _ (ht.call hS)).mono ?_
                rintro e u12 ⟨rfl, d12⟩
                replace hS := bthen hS d12
                (replace j1 := j1.call d12); (replace j2 := j2.call d12); (replace j3 := j3.call d12); (replace j4 := j4.call d12); (replace j5 := j5.call d12)
                first | (with_reducible refine hK.out _ _ hS (fun _ => ?_)) | (go_wp2_with fail; with_reducible refine hK.out _ _ hS (fun _ => ?_))
                clear hK K
                (try simp only [Act.put, List.setIfInBounds_toArray, List.set_cons_zero, List.set_cons_succ])
                refine wpAnyH_take (i := 40) (oi := ⟨_, _, _, _, _, _⟩) (v := ?_) rfl (by kernel_rfl) (by kernel_rfl) (by kernel_rfl) (fun _ _ _ h => h) (Or.inl ⟨by rfl, ?_⟩) hS ?_
                rotate_left
                · intro w' hS'; (first | (go_simp; done) | (go_simp; with_reducible rfl) | with_reducible rfl)
                (try simp only [Act.put, List.setIfInBounds_toArray, List.set_cons_zero, List.set_cons_succ])
                refine wpAnyH_take (i := 41) (oi := ⟨_, _, _, _, _, _⟩) (v := ?_) rfl (by kernel_rfl) (by kernel_rfl) (by kernel_rfl) (fun _ _ _ h => h) (Or.inl ⟨by rfl, ?_⟩) hS ?_
                rotate_left
                · intro w' hS'; (first | (go_simp; done) | (go_simp; with_reducible rfl) | with_reducible rfl)
                (try simp only [Act.put, List.setIfInBounds_toArray, List.set_cons_zero, List.set_cons_succ])
                refine wpAnyH_done (by kernel_rfl) ?_ _
                go_wp2
                go_ret
                exact ⟨rfl, bthen bW hS⟩
  · have hd : decide (n + (n' + n'') ≤ 60) = false := by simp; omega
    have H2 := Lib.hid (awake_any X ht)
    go_wp2_with fail
    refine H2.out.mono ?_
    rintro e X2 ⟨rfl, b5⟩
    go_wp2
    go_ret
    exact ⟨rfl, bthen bW b5⟩
end Go.Proofs.YteicjbinginamaaDoor
