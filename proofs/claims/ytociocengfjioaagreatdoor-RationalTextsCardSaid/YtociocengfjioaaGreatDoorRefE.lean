/- Walks of Compare and Sign of the reference. -/
import Derived.Test.YtociocengfjioaaGreatDoorRefD
namespace Go.Proofs.YtociocengfjioaaGreatDoor
open Go.RowKit
set_option linter.unusedVariables false

/-- two boxes that hold canonical integers -/
def Two (w : World) (g g' : Nat) (x y : Int) (wz : World) : Prop :=
  ∃ s A n c t A' n' c', Pr wz g s A n c ∧ Pr wz g' t A' n' c' ∧ CInt wz s A n c x ∧ CInt wz t A' n' c' y ∧ Below w.heap.size w wz

theorem cmpz_sgn {x y : Int} (h : x < 0 ↔ y < 0) : cmpz x y = if x < 0 then cmp3 y.natAbs x.natAbs else cmp3 x.natAbs y.natAbs := by
  unfold cmpz cmp3
  (repeat' split) <;> omega

set_option maxHeartbeats 1000000 in
set_option maxRecDepth 100000 in
theorem refCompare_any {s t : Bool} {A A' : Option Addr} {n n' c c' : Nat} {x y : Int} (w : World) (ha : AInt w s A n c x) (hb : AInt w t A' n' c' y) (hn : n ≤ 1099511627776) (hn' : n' ≤ 1099511627776) :
    Calls Tryz.prog 45 #[.agg #[.bool s, .slice A n c], .agg #[.bool t, .slice A' n' c']] w (RetV w (.int .i64 (cmpz x y))) := by
  obtain ⟨W, hW, hS, pa, pb⟩ := boxes2' w s t A A' n n' c c'
  replace ha := ha.call hS
  replace hb := hb.call hS
  go_enter Tryz.func45, Tryz.ntmps45
  go_wp2_with fail
  rw [← hW]
  clear hW
  go_upto_region 1 with (fail)
  go_cut [] (fun wz => Two w w.heap.size (w.heap.size + 1) x y wz)
  case first =>
    have d0 := bdrew W
    (replace ha := ha.call d0); (replace hb := hb.call d0); (replace pa := pa.call d0); (replace pb := pb.call d0)
    replace hS := bthen hS d0
    clear d0
    refine wp_region_held_drew (S := fun _ => True) (by kernel_rfl) trivial (fun _ => ?_)
    generalize W.drew = u0 at *
    refine wpAnyH_ready (rs := [0, 2]) (by kernel_rfl) (by simp) ?_
    refine AllReadyH.cons (o := ⟨_, _, _, _, _, _⟩) rfl (fun K hK => ?_) (AllReadyH.cons (o := ⟨_, _, _, _, _, _⟩) rfl (fun K hK => ?_) AllReadyH.nil)
    · have c0 := pa.cell0
      have c1 := pa.cell1
      go_simp
      refine hK.out _ _ trivial (fun _ => ?_)
      clear hK K c0 c1
      (try simp only [Act.put, List.setIfInBounds_toArray, List.set_cons_zero, List.set_cons_succ])
      refine wpAnyH_ready (rs := [1, 2]) (by kernel_rfl) (by simp) ?_
      refine AllReadyH.cons (o := ⟨_, _, _, _, _, _⟩) rfl (fun K hK => ?_) (AllReadyH.cons (o := ⟨_, _, _, _, _, _⟩) rfl (fun K hK => ?_) AllReadyH.nil)
      · go_simp
        refine (canon_any _ ha hn).mono ?_
        rintro e u1 ⟨t1, B1, m1, e1, rfl, j1, d1⟩
        replace hS := bthen hS d1
        (replace ha := ha.call d1); (replace hb := hb.call d1); (replace pa := pa.call d1); (replace pb := pb.call d1)
        first | (with_reducible refine hK.out _ _ trivial (fun _ => ?_)) | (go_wp2_with fail; with_reducible refine hK.out _ _ trivial (fun _ => ?_))
        clear hK K
        (try simp only [Act.put, List.setIfInBounds_toArray, List.set_cons_zero, List.set_cons_succ])
        refine wpAnyH_ready (rs := [2]) (by kernel_rfl) (by simp) ?_
        refine AllReadyH.cons (o := ⟨_, _, _, _, _, _⟩) rfl (fun K hK => ?_) AllReadyH.nil
        have c0 := pb.cell0
        have c1 := pb.cell1
        go_simp
        refine hK.out _ _ trivial (fun _ => ?_)
        clear hK K c0 c1
        (try simp only [Act.put, List.setIfInBounds_toArray, List.set_cons_zero, List.set_cons_succ])
        refine wpAnyH_ready (rs := [3]) (by kernel_rfl) (by simp) ?_
        refine AllReadyH.cons (o := ⟨_, _, _, _, _, _⟩) rfl (fun K hK => ?_) AllReadyH.nil
        go_simp
        refine (canon_any _ hb hn').mono ?_
        rintro e u2 ⟨t2, B2, m2, e2, rfl, j2, d2⟩
        replace hS := bthen hS d2
        (replace ha := ha.call d2); (replace hb := hb.call d2); (replace pa := pa.call d2); (replace pb := pb.call d2); (replace j1 := j1.call d2)
        first | (with_reducible refine hK.out _ _ trivial (fun _ => ?_)) | (go_wp2_with fail; with_reducible refine hK.out _ _ trivial (fun _ => ?_))
        clear hK K
        (try simp only [Act.put, List.setIfInBounds_toArray, List.set_cons_zero, List.set_cons_succ])
        refine wpAnyH_ready (rs := [4]) (by kernel_rfl) (by simp) ?_
        refine AllReadyH.cons (o := ⟨_, _, _, _, _, _⟩) rfl (fun K hK => ?_) AllReadyH.nil
        obtain ⟨q0, q1, f0, f1, k0, k1⟩ := pa.all (.bool t1) (.slice B1 m1 e1)
        go_simp
        refine hK.out _ _ trivial (fun _ => ?_)
        clear hK K q0 q1 f0 f1 k0 k1
        replace hS := below_stored hS (g := w.heap.size) (by omega) (.bool t1) (.slice B1 m1 e1)
        replace j1 := j1.stored pa (.bool t1) (.slice B1 m1 e1)
        replace j2 := j2.stored pa (.bool t1) (.slice B1 m1 e1)
        replace pb := pb.far (g' := w.heap.size) (by omega) (.bool t1) (.slice B1 m1 e1)
        replace pa := pa.stored (s' := t1) (A' := B1) (n' := m1) (c' := e1)
        (try simp only [Act.put, List.setIfInBounds_toArray, List.set_cons_zero, List.set_cons_succ])
        refine wpAnyH_ready (rs := [5]) (by kernel_rfl) (by simp) ?_
        refine AllReadyH.cons (o := ⟨_, _, _, _, _, _⟩) rfl (fun K hK => ?_) AllReadyH.nil
        obtain ⟨q0, q1, f0, f1, k0, k1⟩ := pb.all (.bool t2) (.slice B2 m2 e2)
        go_simp
        refine hK.out _ _ trivial (fun _ => ?_)
        clear hK K q0 q1 f0 f1 k0 k1
        replace hS := below_stored hS (g := w.heap.size + 1) (by omega) (.bool t2) (.slice B2 m2 e2)
        replace j1 := j1.stored pb (.bool t2) (.slice B2 m2 e2)
        replace j2 := j2.stored pb (.bool t2) (.slice B2 m2 e2)
        replace pa := pa.far (g' := w.heap.size + 1) (by omega) (.bool t2) (.slice B2 m2 e2)
        replace pb := pb.stored (s' := t2) (A' := B2) (n' := m2) (c' := e2)
        (try simp only [Act.put, List.setIfInBounds_toArray, List.set_cons_zero, List.set_cons_succ])
        refine wpAnyH_done (by kernel_rfl) ?_ _
        go_wp2_with fail
        go_meet
        case rel => exact ⟨_, _, _, _, _, _, _, _, pa, pb, j1, j2, hS⟩
      · have c0 := pb.cell0
        have c1 := pb.cell1
        go_simp
        refine hK.out _ _ trivial (fun _ => ?_)
        clear hK K c0 c1
        (try simp only [Act.put, List.setIfInBounds_toArray, List.set_cons_zero, List.set_cons_succ])
        refine wpAnyH_ready (rs := [1]) (by kernel_rfl) (by simp) ?_
        refine AllReadyH.cons (o := ⟨_, _, _, _, _, _⟩) rfl (fun K hK => ?_) AllReadyH.nil
        go_simp
        refine (canon_any _ ha hn).mono ?_
        rintro e u1 ⟨t1, B1, m1, e1, rfl, j1, d1⟩
        replace hS := bthen hS d1
        (replace ha := ha.call d1); (replace hb := hb.call d1); (replace pa := pa.call d1); (replace pb := pb.call d1)
        first | (with_reducible refine hK.out _ _ trivial (fun _ => ?_)) | (go_wp2_with fail; with_reducible refine hK.out _ _ trivial (fun _ => ?_))
        clear hK K
        (try simp only [Act.put, List.setIfInBounds_toArray, List.set_cons_zero, List.set_cons_succ])
        refine wpAnyH_ready (rs := [3]) (by kernel_rfl) (by simp) ?_
        refine AllReadyH.cons (o := ⟨_, _, _, _, _, _⟩) rfl (fun K hK => ?_) AllReadyH.nil
        go_simp
        refine (canon_any _ hb hn').mono ?_
        rintro e u2 ⟨t2, B2, m2, e2, rfl, j2, d2⟩
        replace hS := bthen hS d2
        (replace ha := ha.call d2); (replace hb := hb.call d2); (replace pa := pa.call d2); (replace pb := pb.call d2); (replace j1 := j1.call d2)
        first | (with_reducible refine hK.out _ _ trivial (fun _ => ?_)) | (go_wp2_with fail; with_reducible refine hK.out _ _ trivial (fun _ => ?_))
        clear hK K
        (try simp only [Act.put, List.setIfInBounds_toArray, List.set_cons_zero, List.set_cons_succ])
        refine wpAnyH_ready (rs := [4]) (by kernel_rfl) (by simp) ?_
        refine AllReadyH.cons (o := ⟨_, _, _, _, _, _⟩) rfl (fun K hK => ?_) AllReadyH.nil
        obtain ⟨q0, q1, f0, f1, k0, k1⟩ := pa.all (.bool t1) (.slice B1 m1 e1)
        go_simp
        refine hK.out _ _ trivial (fun _ => ?_)
        clear hK K q0 q1 f0 f1 k0 k1
        replace hS := below_stored hS (g := w.heap.size) (by omega) (.bool t1) (.slice B1 m1 e1)
        replace j1 := j1.stored pa (.bool t1) (.slice B1 m1 e1)
        replace j2 := j2.stored pa (.bool t1) (.slice B1 m1 e1)
        replace pb := pb.far (g' := w.heap.size) (by omega) (.bool t1) (.slice B1 m1 e1)
        replace pa := pa.stored (s' := t1) (A' := B1) (n' := m1) (c' := e1)
        (try simp only [Act.put, List.setIfInBounds_toArray, List.set_cons_zero, List.set_cons_succ])
        refine wpAnyH_ready (rs := [5]) (by kernel_rfl) (by simp) ?_
        refine AllReadyH.cons (o := ⟨_, _, _, _, _, _⟩) rfl (fun K hK => ?_) AllReadyH.nil
        obtain ⟨q0, q1, f0, f1, k0, k1⟩ := pb.all (.bool t2) (.slice B2 m2 e2)
        go_simp
        refine hK.out _ _ trivial (fun _ => ?_)
        clear hK K q0 q1 f0 f1 k0 k1
        replace hS := below_stored hS (g := w.heap.size + 1) (by omega) (.bool t2) (.slice B2 m2 e2)
        replace j1 := j1.stored pb (.bool t2) (.slice B2 m2 e2)
        replace j2 := j2.stored pb (.bool t2) (.slice B2 m2 e2)
        replace pa := pa.far (g' := w.heap.size + 1) (by omega) (.bool t2) (.slice B2 m2 e2)
        replace pb := pb.stored (s' := t2) (A' := B2) (n' := m2) (c' := e2)
        (try simp only [Act.put, List.setIfInBounds_toArray, List.set_cons_zero, List.set_cons_succ])
        refine wpAnyH_done (by kernel_rfl) ?_ _
        go_wp2_with fail
        go_meet
        case rel => exact ⟨_, _, _, _, _, _, _, _, pa, pb, j1, j2, hS⟩
    · have c0 := pb.cell0
      have c1 := pb.cell1
      go_simp
      refine hK.out _ _ trivial (fun _ => ?_)
      clear hK K c0 c1
      (try simp only [Act.put, List.setIfInBounds_toArray, List.set_cons_zero, List.set_cons_succ])
      refine wpAnyH_ready (rs := [0]) (by kernel_rfl) (by simp) ?_
      refine AllReadyH.cons (o := ⟨_, _, _, _, _, _⟩) rfl (fun K hK => ?_) AllReadyH.nil
      have c0 := pa.cell0
      have c1 := pa.cell1
      go_simp
      refine hK.out _ _ trivial (fun _ => ?_)
      clear hK K c0 c1
      (try simp only [Act.put, List.setIfInBounds_toArray, List.set_cons_zero, List.set_cons_succ])
      refine wpAnyH_ready (rs := [1]) (by kernel_rfl) (by simp) ?_
      refine AllReadyH.cons (o := ⟨_, _, _, _, _, _⟩) rfl (fun K hK => ?_) AllReadyH.nil
      go_simp
      refine (canon_any _ ha hn).mono ?_
      rintro e u1 ⟨t1, B1, m1, e1, rfl, j1, d1⟩
      replace hS := bthen hS d1
      (replace ha := ha.call d1); (replace hb := hb.call d1); (replace pa := pa.call d1); (replace pb := pb.call d1)
      first | (with_reducible refine hK.out _ _ trivial (fun _ => ?_)) | (go_wp2_with fail; with_reducible refine hK.out _ _ trivial (fun _ => ?_))
      clear hK K
      (try simp only [Act.put, List.setIfInBounds_toArray, List.set_cons_zero, List.set_cons_succ])
      refine wpAnyH_ready (rs := [3]) (by kernel_rfl) (by simp) ?_
      refine AllReadyH.cons (o := ⟨_, _, _, _, _, _⟩) rfl (fun K hK => ?_) AllReadyH.nil
      go_simp
      refine (canon_any _ hb hn').mono ?_
      rintro e u2 ⟨t2, B2, m2, e2, rfl, j2, d2⟩
      replace hS := bthen hS d2
      (replace ha := ha.call d2); (replace hb := hb.call d2); (replace pa := pa.call d2); (replace pb := pb.call d2); (replace j1 := j1.call d2)
      first | (with_reducible refine hK.out _ _ trivial (fun _ => ?_)) | (go_wp2_with fail; with_reducible refine hK.out _ _ trivial (fun _ => ?_))
      clear hK K
      (try simp only [Act.put, List.setIfInBounds_toArray, List.set_cons_zero, List.set_cons_succ])
      refine wpAnyH_ready (rs := [4]) (by kernel_rfl) (by simp) ?_
      refine AllReadyH.cons (o := ⟨_, _, _, _, _, _⟩) rfl (fun K hK => ?_) AllReadyH.nil
      obtain ⟨q0, q1, f0, f1, k0, k1⟩ := pa.all (.bool t1) (.slice B1 m1 e1)
      go_simp
      refine hK.out _ _ trivial (fun _ => ?_)
      clear hK K q0 q1 f0 f1 k0 k1
      replace hS := below_stored hS (g := w.heap.size) (by omega) (.bool t1) (.slice B1 m1 e1)
      replace j1 := j1.stored pa (.bool t1) (.slice B1 m1 e1)
      replace j2 := j2.stored pa (.bool t1) (.slice B1 m1 e1)
      replace pb := pb.far (g' := w.heap.size) (by omega) (.bool t1) (.slice B1 m1 e1)
      replace pa := pa.stored (s' := t1) (A' := B1) (n' := m1) (c' := e1)
      (try simp only [Act.put, List.setIfInBounds_toArray, List.set_cons_zero, List.set_cons_succ])
      refine wpAnyH_ready (rs := [5]) (by kernel_rfl) (by simp) ?_
      refine AllReadyH.cons (o := ⟨_, _, _, _, _, _⟩) rfl (fun K hK => ?_) AllReadyH.nil
      obtain ⟨q0, q1, f0, f1, k0, k1⟩ := pb.all (.bool t2) (.slice B2 m2 e2)
      go_simp
      refine hK.out _ _ trivial (fun _ => ?_)
      clear hK K q0 q1 f0 f1 k0 k1
      replace hS := below_stored hS (g := w.heap.size + 1) (by omega) (.bool t2) (.slice B2 m2 e2)
      replace j1 := j1.stored pb (.bool t2) (.slice B2 m2 e2)
      replace j2 := j2.stored pb (.bool t2) (.slice B2 m2 e2)
      replace pa := pa.far (g' := w.heap.size + 1) (by omega) (.bool t2) (.slice B2 m2 e2)
      replace pb := pb.stored (s' := t2) (A' := B2) (n' := m2) (c' := e2)
      (try simp only [Act.put, List.setIfInBounds_toArray, List.set_cons_zero, List.set_cons_succ])
      refine wpAnyH_done (by kernel_rfl) ?_ _
      go_wp2_with fail
      go_meet
      case rel => exact ⟨_, _, _, _, _, _, _, _, pa, pb, j1, j2, hS⟩
  case rest =>
    obtain ⟨s1, A1, n1, c1, s2, A2, n2, c2, p1, p2, i1, i2, b⟩ := hcut
    clear ha hb pa pb hS
    obtain ⟨a0, a1, b0, b1⟩ := p1.cells p2
    have HS := Lib.hid i1.2.1
    have HS' := Lib.hid i2.2.1
    by_cases hst : s1 = s2
    · have hx : x < 0 ↔ y < 0 := by
        have h1 := HS.out
        have h2 := HS'.out
        rw [hst, h2] at h1
        have := decide_eq_decide.1 h1
        exact this.symm
      have HC := Lib.hid (cmpz_sgn hx)
      have K1 := Lib.hid (compareDigits_any wc i1.1 i2.1 (digits_w32 _) (digits_w32 _) i1.2.2.1 i1.2.2.2 i2.2.2.1 i2.2.2.2)
      have K2 := Lib.hid (compareDigits_any wc i2.1 i1.1 (digits_w32 _) (digits_w32 _) i2.2.2.1 i2.2.2.2 i1.2.2.1 i1.2.2.2)
      rw [val_digits, val_digits] at K1 K2
      subst hst
      have hse : (s1 == s1) = true := by simp
      cases s1
      · have hx0 : ¬ x < 0 := by have := HS.out; simpa using this
        rw [if_neg hx0] at HC
        generalize cmpz x y = z at *
        generalize cmp3 x.natAbs y.natAbs = z' at *
        clear hx0 hx
        go_wp2_with fail
        refine K1.out.mono ?_
        rintro e w3 ⟨rfl, hq⟩
        go_wp2
        go_ret
        exact ⟨by rw [HC.out]; rfl, bthen b (qbelow hq)⟩
      · have hx0 : x < 0 := by have := HS.out; simpa using this
        rw [if_pos hx0] at HC
        generalize cmpz x y = z at *
        generalize cmp3 y.natAbs x.natAbs = z' at *
        clear hx0 hx
        go_wp2_with fail
        refine K2.out.mono ?_
        rintro e w3 ⟨rfl, hq⟩
        go_wp2
        go_ret
        exact ⟨by rw [HC.out]; rfl, bthen b (qbelow hq)⟩
    · have hse : (s1 == s2) = false := by simp; exact hst
      cases s1
      · obtain rfl : s2 = true := by simpa using (Ne.symm hst)
        have hx0 : ¬ x < 0 := by have := HS.out; simpa using this
        have hy0 : y < 0 := by have := HS'.out; simpa using this
        have HC : Hid (cmpz x y = 1) := cmpz_gt (by omega)
        generalize cmpz x y = z at *
        clear hx0 hy0 hse hst
        go_wp2
        go_ret
        exact ⟨by rw [HC.out]; rfl, b⟩
      · obtain rfl : s2 = false := by simpa using (Ne.symm hst)
        have hx0 : x < 0 := by have := HS.out; simpa using this
        have hy0 : ¬ y < 0 := by have := HS'.out; simpa using this
        have HC : Hid (cmpz x y = -1) := cmpz_lt (by omega)
        generalize cmpz x y = z at *
        clear hx0 hy0 hse hst
        go_wp2
        go_ret
        exact ⟨by rw [HC.out]; rfl, b⟩

theorem cmpz_zero (x : Int) : cmpz x 0 = x.sign := by
  unfold cmpz
  rcases Int.lt_trichotomy x 0 with h | h | h
  · rw [if_pos h, Int.sign_eq_neg_one_of_neg h]
  · rw [if_neg (by omega), if_pos h, h]; rfl
  · rw [if_neg (by omega), if_neg (by omega), Int.sign_eq_one_of_pos h]

set_option maxRecDepth 100000 in
theorem refSign_any {s : Bool} {A : Option Addr} {n c : Nat} {x : Int} (w : World) (ha : AInt w s A n c x) (hn : n ≤ 1099511627776) :
    Calls Tryz.prog 42 #[.agg #[.bool s, .slice A n c]] w (RetV w (.int .i64 x.sign)) := by
  obtain ⟨W, hW⟩ : ∃ W, W = w.alloc (.cells #[.bool s, .slice A n c] 24) := ⟨_, rfl⟩
  have bW : Below w.heap.size w W := by rw [hW]; exact bone w _
  have pa : Pr W w.heap.size s A n c := by rw [hW]; exact Pr.new w s A n c
  have a0 := pa.cell0
  have a1 := pa.cell1
  have HC := Lib.hid (refCompare_any W (ha.call bW) (CInt.zero W).any hn (by omega))
  rw [cmpz_zero] at HC
  go_enter Tryz.func42, Tryz.ntmps42
  go_wp2_with fail
  rw [← hW]
  clear hW
  refine HC.out.mono ?_
  rintro e w5 ⟨rfl, b5⟩
  go_wp2
  go_ret
  exact ⟨rfl, bthen bW b5⟩
end Go.Proofs.YtociocengfjioaaGreatDoor
