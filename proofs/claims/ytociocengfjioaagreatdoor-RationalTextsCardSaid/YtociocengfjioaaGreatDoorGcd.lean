/- Walk of GCD of the program. -/
import Derived.Test.YtociocengfjioaaGreatDoorGcdMag
import Derived.Test.YtociocengfjioaaGreatDoorLawKit
namespace Go.Proofs.YtociocengfjioaaGreatDoor
open Go.RowKit
set_option linter.unusedVariables false

theorem AInt.trim' {w : World} {neg : Bool} {A : Option Addr} {n c : Nat} {z : Int} (h : AInt w neg A n c z) :
    Calls Tryz.prog 89 #[.slice A n c] w (RetTrimD w w.heap.size n A z.natAbs) := h.trim (Below.refl _ _)

set_option maxHeartbeats 1000000 in
set_option maxRecDepth 100000 in
theorem gcd_any {s t : Bool} {A A' : Option Addr} {n n' c c' : Nat} {x y : Int} (w : World) (ha : AInt w s A n c x) (hb : AInt w t A' n' c' y) (hn : n ≤ 549755813888) (hn' : n' ≤ 549755813888) :
    Calls Tryz.prog 85 #[.agg #[.bool s, .slice A n c], .agg #[.bool t, .slice A' n' c']] w (RetInt w (Nat.gcd x.natAbs y.natAbs : Nat)) := by
  obtain ⟨W, hW, hS, pa, pb, pr⟩ := boxes2 w s t A A' n n' c c'
  replace ha := ha.call hS
  replace hb := hb.call hS
  go_enter Tryz.func85, Tryz.ntmps85
  go_wp2_with fail
  rw [← hW]
  clear hW
  have d0 := bdrew W
  (replace ha := ha.call d0); (replace hb := hb.call d0); (replace pa := pa.call d0); (replace pb := pb.call d0); (replace pr := pr.call d0)
  replace hS := bthen hS d0
  clear d0
  refine wp_region_held_drew (S := fun w' => Below w.heap.size w w' ∧ Pr w' (w.heap.size) s A n c ∧ Pr w' (w.heap.size + 1) t A' n' c') (by kernel_rfl) ⟨hS, pa, pb⟩ (fun _ => ?_)
  generalize W.drew = u0 at *
  refine wpAnyH_take (i := 0) (oi := ⟨_, _, _, _, _, _⟩) (v := ?_) rfl (by kernel_rfl) (by kernel_rfl) (by kernel_rfl) (fun _ _ _ h => h) (Or.inl ⟨by rfl, ?_⟩) ⟨hS, pa, pb⟩ ?_
  rotate_left
  · intro w' hS'; (first | (go_simp; done) | (go_simp; with_reducible rfl) | with_reducible rfl)
  (try simp only [Act.put, List.setIfInBounds_toArray, List.set_cons_zero, List.set_cons_succ])
  refine wpAnyH_take (i := 1) (oi := ⟨_, _, _, _, _, _⟩) (v := ?_) rfl (by kernel_rfl) (by kernel_rfl) (by kernel_rfl) (fun _ _ _ h => h) (Or.inl ⟨by rfl, ?_⟩) ⟨hS, pa, pb⟩ ?_
  rotate_left
  · intro w' hS'; obtain ⟨_, q_pa, q_pb⟩ := hS'; have c0 := q_pa.cell0; have c1 := q_pa.cell1; (first | (go_simp; done) | (go_simp; with_reducible rfl) | with_reducible rfl)
  (try simp only [Act.put, List.setIfInBounds_toArray, List.set_cons_zero, List.set_cons_succ])
  refine wpAnyH_take (i := 3) (oi := ⟨_, _, _, _, _, _⟩) (v := ?_) rfl (by kernel_rfl) (by kernel_rfl) (by kernel_rfl) (fun _ _ _ h => h) (Or.inl ⟨by rfl, ?_⟩) ⟨hS, pa, pb⟩ ?_
  rotate_left
  · intro w' hS'; (first | (go_simp; done) | (go_simp; with_reducible rfl) | with_reducible rfl)
  (try simp only [Act.put, List.setIfInBounds_toArray, List.set_cons_zero, List.set_cons_succ])
  refine wpAnyH_take (i := 4) (oi := ⟨_, _, _, _, _, _⟩) (v := ?_) rfl (by kernel_rfl) (by kernel_rfl) (by kernel_rfl) (fun _ _ _ h => h) (Or.inl ⟨by rfl, ?_⟩) ⟨hS, pa, pb⟩ ?_
  rotate_left
  · intro w' hS'; obtain ⟨_, q_pa, q_pb⟩ := hS'; have c0 := q_pb.cell0; have c1 := q_pb.cell1; (first | (go_simp; done) | (go_simp; with_reducible rfl) | with_reducible rfl)
  (try simp only [Act.put, List.setIfInBounds_toArray, List.set_cons_zero, List.set_cons_succ])
  refine wpAnyH_ready (rs := [2]) (by kernel_rfl) (by simp) ?_
  refine AllReadyH.cons (o := ⟨_, _, _, _, _, _⟩) rfl (fun K hK => ?_) AllReadyH.nil
  go_simp
  refine (ha.trim').mono ?_
  rintro e u1 ⟨m1, rfl, r1, y1, rfl⟩
  first | (with_reducible refine hK.out _ _ ⟨hS, pa, pb⟩ (fun _ => ?_)) | (go_wp2_with fail; with_reducible refine hK.out _ _ ⟨hS, pa, pb⟩ (fun _ => ?_))
  clear hK K
  (try simp only [Act.put, List.setIfInBounds_toArray, List.set_cons_zero, List.set_cons_succ])
  refine wpAnyH_ready (rs := [5]) (by kernel_rfl) (by simp) ?_
  refine AllReadyH.cons (o := ⟨_, _, _, _, _, _⟩) rfl (fun K hK => ?_) AllReadyH.nil
  go_simp
  refine (hb.trim').mono ?_
  rintro e u2 ⟨m2, rfl, r2, y2, rfl⟩
  first | (with_reducible refine hK.out _ _ ⟨hS, pa, pb⟩ (fun _ => ?_)) | (go_wp2_with fail; with_reducible refine hK.out _ _ ⟨hS, pa, pb⟩ (fun _ => ?_))
  clear hK K
  (try simp only [Act.put, List.setIfInBounds_toArray, List.set_cons_zero, List.set_cons_succ])
  refine wpAnyH_ready (rs := [6]) (by kernel_rfl) (by simp) ?_
  refine AllReadyH.cons (o := ⟨_, _, _, _, _, _⟩) rfl (fun K hK => ?_) AllReadyH.nil
  go_simp
  refine (gcdMag_any _ r1 r2 (by omega) (by omega) (Nat.le_refl _) (by omega) (Nat.le_refl _) (by omega)).mono ?_
  rintro e u3 ⟨B3, m3, e3, rfl, r3, x3, x3', d3⟩
  replace hS := bthen hS d3
  (replace ha := ha.call d3); (replace hb := hb.call d3); (replace pa := pa.call d3); (replace pb := pb.call d3); (replace pr := pr.call d3); (replace r1 := r1.call d3); (replace r2 := r2.call d3)
  first | (with_reducible refine hK.out _ _ ⟨hS, pa, pb⟩ (fun _ => ?_)) | (go_wp2_with fail; with_reducible refine hK.out _ _ ⟨hS, pa, pb⟩ (fun _ => ?_))
  clear hK K
  (try simp only [Act.put, List.setIfInBounds_toArray, List.set_cons_zero, List.set_cons_succ])
  refine wpAnyH_ready (rs := [7]) (by kernel_rfl) (by simp) ?_
  refine AllReadyH.cons (o := ⟨_, _, _, _, _, _⟩) rfl (fun K hK => ?_) AllReadyH.nil
  go_simp
  refine (wrap_mag false _ r3 x3 x3').mono ?_
  rintro e u4 ⟨t4, B4, m4, e4, rfl, j4, d4⟩
  replace hS := bthen hS d4
  (replace ha := ha.call d4); (replace hb := hb.call d4); (replace pa := pa.call d4); (replace pb := pb.call d4); (replace pr := pr.call d4); (replace r1 := r1.call d4); (replace r2 := r2.call d4); (replace r3 := r3.call d4)
  first | (with_reducible refine hK.out _ _ ⟨hS, pa, pb⟩ (fun _ => ?_)) | (go_wp2_with fail; with_reducible refine hK.out _ _ ⟨hS, pa, pb⟩ (fun _ => ?_))
  clear hK K
  rw [sgn_f] at j4
  (try simp only [Act.put, List.setIfInBounds_toArray, List.set_cons_zero, List.set_cons_succ])
  refine wpAnyH_ready (rs := [8]) (by kernel_rfl) (by simp) ?_
  refine AllReadyH.cons (o := ⟨_, _, _, _, _, _⟩) rfl (fun K hK => ?_) AllReadyH.nil
  obtain ⟨q0, q1, f0, f1, k0, k1⟩ := pr.all (.bool t4) (.slice B4 m4 e4)
  have hSb := hS
  go_simp
  replace hS := below_stored hS (g := w.heap.size + 1 + 1) (by omega) (.bool t4) (.slice B4 m4 e4)
  refine hK.out _ _ ⟨hS, (pa.far (by omega) _ _), (pb.far (by omega) _ _)⟩ (fun _ => ?_)
  clear hK K
  (try simp only [Act.put, List.setIfInBounds_toArray, List.set_cons_zero, List.set_cons_succ])
  refine wpAnyH_done (by kernel_rfl) ?_ _
  go_wp2
  ((try simp only [Exit.inBlock, Exit.then]); refine bodyPost_ret (by simp [results, Tryz.results85, go_sem, k0, k1]; try rfl) rfl ?_)
  exact RetInt.stored j4 pr hSb (by omega)
end Go.Proofs.YtociocengfjioaaGreatDoor
