/- Walks of FromInt64 and DivMod of the reference. -/
import Derived.Test.YtociocengfjioaaGreatDoorRefG
import Derived.Test.YtociocengfjioaaGreatDoorOrders
import Derived.Test.YtociocengfjioaaGreatDoorDivMod
namespace Go.Proofs.YtociocengfjioaaGreatDoor
open Go.RowKit
set_option linter.unusedVariables false

theorem make_two (neg : Bool) (W : World) (k : Nat) (hk : k < 18446744073709551616) :
    Calls Tryz.prog 65 #[.bool neg, .slice (some ⟨W.heap.size, 0, none⟩) 2 2] (W.alloc (.cells #[.int .u32 ((k % 4294967296 : Nat) : Int), .int .u32 ((k / 4294967296 : Nat) : Int)] 86)) (RetInt (W.alloc (.cells #[.int .u32 ((k % 4294967296 : Nat) : Int), .int .u32 ((k / 4294967296 : Nat) : Int)] 86)) (sgn neg k)) := by
  have hr := Rd.block .u32 W 86 (0, 0) [k % 4294967296, k / 4294967296] #[.int .u32 ((k % 4294967296 : Nat) : Int), .int .u32 ((k / 4294967296 : Nat) : Int)] (by simp [cellsOf])
  have h := make_any (c := 2) neg _ hr (by simp) (W32.mk (Nat.mod_lt _ (by omega)) (W32.mk (by omega) W32.nil)) (by simp) (by omega) (by simp)
  rw [show val [k % 4294967296, k / 4294967296] = k by simp [val]; omega] at h
  exact h

set_option maxRecDepth 100000 in
theorem refFromInt64_any (k : Int) (w : World) (h1 : -9223372036854775808 ≤ k) (h2 : k ≤ 9223372036854775807) : Calls Tryz.prog 101 #[.int .i64 k] w (RetInt w k) := by
  obtain ⟨W, hW⟩ : ∃ W, W = w.alloc (.cells #[.bool false, .slice none 0 0] 24) := ⟨_, rfl⟩
  have hsz : W.heap.size = w.heap.size + 1 := by rw [hW]; simp
  have bW : Below w.heap.size w W := by rw [hW]; exact bone w _
  have pr : Pr W w.heap.size false none 0 0 := by rw [hW]; exact Pr.new w false none 0 0
  obtain ⟨a, ha⟩ : ∃ a, a = k.natAbs := ⟨_, rfl⟩
  have hab : a < 18446744073709551616 := by omega
  by_cases h0 : k < 0
  · have hd : decide (k < 0) = true := by simp; omega
    have e1 : IntKind.u64.wrap (-IntKind.u64.wrap k) = (a : Int) := by rw [IntKind.wrap_u64]; (try rw [IntKind.wrap_u64]); omega
    have HM := Lib.hid (make_two true W a hab)
    rw [show sgn true a = k by unfold sgn; simp; omega, hsz] at HM
    have e2 : (a : Int) % 4294967296 = ((a % 4294967296 : Nat) : Int) := by omega
    have e3 : (a : Int) / 4294967296 = ((a / 4294967296 : Nat) : Int) := by omega
    have hal : a / 4294967296 < 4294967296 := by omega
    have ham : a % 4294967296 < 4294967296 := by omega
    clear ha
    generalize a % 4294967296 = lo at *
    generalize a / 4294967296 = hi at *
    go_enter Tryz.func101, Tryz.ntmps101
    go_wp2_with fail
    rw [← hW]
    clear hW
    refine HM.out.mono ?_
    rintro e w2 ⟨neg, A2, n2, c2, rfl, ci, d2⟩
    have d3 := bthen (bone W (.cells #[.int .u32 (lo : Int), .int .u32 (hi : Int)] 86)) d2
    have p2 := pr.call d3
    obtain ⟨q0, q1, f0, f1, k0, k1⟩ := p2.all (.bool neg) (.slice A2 n2 c2)
    go_wp2
    ((try simp only [Exit.inBlock, Exit.then]); refine bodyPost_ret (by simp [results, Tryz.results101, go_sem, k0, k1]; try rfl) rfl ?_)
    exact RetInt.stored ci p2 (bthen bW d3) (by omega)
  · have hd : decide (k < 0) = false := by simp; omega
    have e1 : IntKind.u64.wrap k = (a : Int) := by rw [IntKind.wrap_u64]; omega
    have HM := Lib.hid (make_two false W a hab)
    rw [show sgn false a = k by unfold sgn; simp; omega, hsz] at HM
    have e2 : (a : Int) % 4294967296 = ((a % 4294967296 : Nat) : Int) := by omega
    have e3 : (a : Int) / 4294967296 = ((a / 4294967296 : Nat) : Int) := by omega
    have hal : a / 4294967296 < 4294967296 := by omega
    have ham : a % 4294967296 < 4294967296 := by omega
    clear ha
    generalize a % 4294967296 = lo at *
    generalize a / 4294967296 = hi at *
    go_enter Tryz.func101, Tryz.ntmps101
    go_wp2_with fail
    rw [← hW]
    clear hW
    refine HM.out.mono ?_
    rintro e w2 ⟨neg, A2, n2, c2, rfl, ci, d2⟩
    have d3 := bthen (bone W (.cells #[.int .u32 (lo : Int), .int .u32 (hi : Int)] 86)) d2
    have p2 := pr.call d3
    obtain ⟨q0, q1, f0, f1, k0, k1⟩ := p2.all (.bool neg) (.slice A2 n2 c2)
    go_wp2
    ((try simp only [Exit.inBlock, Exit.then]); refine bodyPost_ret (by simp [results, Tryz.results101, go_sem, k0, k1]; try rfl) rfl ?_)
    exact RetInt.stored ci p2 (bthen bW d3) (by omega)

/-- two new boxes that hold canonical integers -/
def Box2 (X wz : World) (v v' : Value) (x y : Int) : Prop :=
  ∃ g s A n c g' s' A' n' c', v = .pointer (some ⟨g, 0, none⟩) ∧ v' = .pointer (some ⟨g', 0, none⟩) ∧ Pr wz g s A n c ∧ Pr wz g' s' A' n' c' ∧ CInt wz s A n c x ∧ CInt wz s' A' n' c' y ∧ Below X.heap.size X wz ∧ X.heap.size ≤ g ∧ X.heap.size ≤ g' ∧ g ≠ g'

theorem trunc_floor {s t : Bool} {a b : Nat} (hb : 0 < b) (h : 0 < a % b) (hst : s ≠ t) :
    sgn (!(s == t)) (a / b) - 1 = (sgn s a).fdiv (sgn t b) ∧ sgn s (a % b) + sgn t b = (sgn s a).fmod (sgn t b) := by
  obtain ⟨h1, h2⟩ := floor_signed (s := s) (t := t) (a := a) hb
  rw [if_pos ⟨h, hst⟩] at h1 h2
  have h3 := Nat.mod_lt a hb
  rw [h1, h2]
  cases s <;> cases t <;> simp at hst <;> simp [sgn] <;> omega
theorem trunc_floor' {s t : Bool} {a b : Nat} (hb : 0 < b) (h : ¬ (0 < a % b ∧ s ≠ t)) :
    sgn (!(s == t)) (a / b) = (sgn s a).fdiv (sgn t b) ∧ sgn s (a % b) = (sgn s a).fmod (sgn t b) := by
  obtain ⟨h1, h2⟩ := floor_signed (s := s) (t := t) (a := a) hb
  rw [if_neg h] at h1 h2
  rw [h1, h2]
  refine ⟨rfl, ?_⟩
  by_cases hst : s = t
  · rw [hst]
  · have : a % b = 0 := by
      rcases Nat.eq_zero_or_pos (a % b) with h0 | h0
      · exact h0
      · exact absurd ⟨h0, hst⟩ h
    rw [this, sgn_zero, sgn_zero]

set_option maxHeartbeats 4000000 in
set_option maxRecDepth 100000 in
theorem refDivMod_any {s t : Bool} {A A' : Option Addr} {n n' c c' : Nat} {x y : Int} (w : World) (ha : AInt w s A n c x) (hb : AInt w t A' n' c' y) (hn : n ≤ 1073741824) (hn' : n' ≤ 1073741824) :
    Calls Tryz.prog 82 #[.agg #[.bool s, .slice A n c], .agg #[.bool t, .slice A' n' c']] w (RetDM w x y) := by
  obtain ⟨W, hW, hS, pa, pb, pq, pr⟩ := boxes4 w s t A A' n n' c c'
  have lx := ha.lim
  have ly := hb.lim
  replace ha := ha.call hS
  replace hb := hb.call hS
  go_enter Tryz.func82, Tryz.ntmps82
  go_wp2_with fail
  rw [← hW]
  clear hW
  go_upto_region 1 with (fail)
  go_cut [] (fun wz => Two w w.heap.size (w.heap.size + 1) x y wz ∧ Pr wz (w.heap.size + 1 + 1) false none 0 0 ∧ Pr wz (w.heap.size + 1 + 1 + 1) false none 0 0)
  case first =>
    have d0 := bdrew W
    (replace ha := ha.call d0); (replace hb := hb.call d0); (replace pa := pa.call d0); (replace pb := pb.call d0); (replace pq := pq.call d0); (replace pr := pr.call d0)
    replace hS := bthen hS d0
    clear d0
    refine wp_region_held_drew (S := fun _ => True) (by kernel_rfl) trivial (fun _ => ?_)
    generalize W.drew = u0 at *
    refine wpAnyH_ready (rs := [0, 2]) (by kernel_rfl) (by simp) ?_
    refine AllReadyH.cons (o := ⟨_, _, _, _, _, _⟩) rfl (fun K hK => ?_) (AllReadyH.cons (o := ⟨_, _, _, _, _, _⟩) rfl (fun K hK => ?_) AllReadyH.nil)
    · have c0 := pa.cell0
      have c1 := pa.cell1
      go_simp
      refine hK.out _ _ trivial (fun _ => ?_)
      clear hK K c0 c1
      (try simp only [Act.put, List.setIfInBounds_toArray, List.set_cons_zero, List.set_cons_succ])
      refine wpAnyH_ready (rs := [1, 2]) (by kernel_rfl) (by simp) ?_
      refine AllReadyH.cons (o := ⟨_, _, _, _, _, _⟩) rfl (fun K hK => ?_) (AllReadyH.cons (o := ⟨_, _, _, _, _, _⟩) rfl (fun K hK => ?_) AllReadyH.nil)
      · go_simp
        refine (canon_any _ ha (by omega)).mono ?_
        rintro e u1 ⟨t1, B1, m1, e1, rfl, j1, d1⟩
        replace hS := bthen hS d1
        (replace ha := ha.call d1); (replace hb := hb.call d1); (replace pa := pa.call d1); (replace pb := pb.call d1); (replace pq := pq.call d1); (replace pr := pr.call d1)
        first | (with_reducible refine hK.out _ _ trivial (fun _ => ?_)) | (go_wp2_with fail; with_reducible refine hK.out _ _ trivial (fun _ => ?_))
        clear hK K
        (try simp only [Act.put, List.setIfInBounds_toArray, List.set_cons_zero, List.set_cons_succ])
        refine wpAnyH_ready (rs := [2]) (by kernel_rfl) (by simp) ?_
        refine AllReadyH.cons (o := ⟨_, _, _, _, _, _⟩) rfl (fun K hK => ?_) AllReadyH.nil
        have c0 := pb.cell0
        have c1 := pb.cell1
        go_simp
        refine hK.out _ _ trivial (fun _ => ?_)
        clear hK K c0 c1
        (try simp only [Act.put, List.setIfInBounds_toArray, List.set_cons_zero, List.set_cons_succ])
        refine wpAnyH_ready (rs := [3]) (by kernel_rfl) (by simp) ?_
        refine AllReadyH.cons (o := ⟨_, _, _, _, _, _⟩) rfl (fun K hK => ?_) AllReadyH.nil
        go_simp
        refine (canon_any _ hb (by omega)).mono ?_
        rintro e u2 ⟨t2, B2, m2, e2, rfl, j2, d2⟩
        replace hS := bthen hS d2
        (replace ha := ha.call d2); (replace hb := hb.call d2); (replace pa := pa.call d2); (replace pb := pb.call d2); (replace pq := pq.call d2); (replace pr := pr.call d2); (replace j1 := j1.call d2)
        first | (with_reducible refine hK.out _ _ trivial (fun _ => ?_)) | (go_wp2_with fail; with_reducible refine hK.out _ _ trivial (fun _ => ?_))
        clear hK K
        (try simp only [Act.put, List.setIfInBounds_toArray, List.set_cons_zero, List.set_cons_succ])
        refine wpAnyH_ready (rs := [4]) (by kernel_rfl) (by simp) ?_
        refine AllReadyH.cons (o := ⟨_, _, _, _, _, _⟩) rfl (fun K hK => ?_) AllReadyH.nil
        obtain ⟨q0, q1, f0, f1, k0, k1⟩ := pa.all (.bool t1) (.slice B1 m1 e1)
        go_simp
        refine hK.out _ _ trivial (fun _ => ?_)
        clear hK K q0 q1 f0 f1 k0 k1
        replace hS := below_stored hS (g := w.heap.size) (by omega) (.bool t1) (.slice B1 m1 e1)
        replace j1 := j1.stored pa (.bool t1) (.slice B1 m1 e1)
        replace j2 := j2.stored pa (.bool t1) (.slice B1 m1 e1)
        replace pb := pb.far (g' := w.heap.size) (by omega) (.bool t1) (.slice B1 m1 e1)
        replace pq := pq.far (g' := w.heap.size) (by omega) (.bool t1) (.slice B1 m1 e1)
        replace pr := pr.far (g' := w.heap.size) (by omega) (.bool t1) (.slice B1 m1 e1)
        replace pa := pa.stored (s' := t1) (A' := B1) (n' := m1) (c' := e1)
        (try simp only [Act.put, List.setIfInBounds_toArray, List.set_cons_zero, List.set_cons_succ])
        refine wpAnyH_ready (rs := [5]) (by kernel_rfl) (by simp) ?_
        refine AllReadyH.cons (o := ⟨_, _, _, _, _, _⟩) rfl (fun K hK => ?_) AllReadyH.nil
        obtain ⟨q0, q1, f0, f1, k0, k1⟩ := pb.all (.bool t2) (.slice B2 m2 e2)
        go_simp
        refine hK.out _ _ trivial (fun _ => ?_)
        clear hK K q0 q1 f0 f1 k0 k1
        replace hS := below_stored hS (g := w.heap.size + 1) (by omega) (.bool t2) (.slice B2 m2 e2)
        replace j1 := j1.stored pb (.bool t2) (.slice B2 m2 e2)
        replace j2 := j2.stored pb (.bool t2) (.slice B2 m2 e2)
        replace pa := pa.far (g' := w.heap.size + 1) (by omega) (.bool t2) (.slice B2 m2 e2)
        replace pq := pq.far (g' := w.heap.size + 1) (by omega) (.bool t2) (.slice B2 m2 e2)
        replace pr := pr.far (g' := w.heap.size + 1) (by omega) (.bool t2) (.slice B2 m2 e2)
        replace pb := pb.stored (s' := t2) (A' := B2) (n' := m2) (c' := e2)
        (try simp only [Act.put, List.setIfInBounds_toArray, List.set_cons_zero, List.set_cons_succ])
        refine wpAnyH_done (by kernel_rfl) ?_ _
        go_wp2_with fail
        go_meet
        case rel => exact ⟨⟨_, _, _, _, _, _, _, _, pa, pb, j1, j2, hS⟩, pq, pr⟩
      · have c0 := pb.cell0
        have c1 := pb.cell1
        go_simp
        refine hK.out _ _ trivial (fun _ => ?_)
        clear hK K c0 c1
        (try simp only [Act.put, List.setIfInBounds_toArray, List.set_cons_zero, List.set_cons_succ])
        refine wpAnyH_ready (rs := [1]) (by kernel_rfl) (by simp) ?_
        refine AllReadyH.cons (o := ⟨_, _, _, _, _, _⟩) rfl (fun K hK => ?_) AllReadyH.nil
        go_simp
        refine (canon_any _ ha (by omega)).mono ?_
        rintro e u1 ⟨t1, B1, m1, e1, rfl, j1, d1⟩
        replace hS := bthen hS d1
        (replace ha := ha.call d1); (replace hb := hb.call d1); (replace pa := pa.call d1); (replace pb := pb.call d1); (replace pq := pq.call d1); (replace pr := pr.call d1)
        first | (with_reducible refine hK.out _ _ trivial (fun _ => ?_)) | (go_wp2_with fail; with_reducible refine hK.out _ _ trivial (fun _ => ?_))
        clear hK K
        (try simp only [Act.put, List.setIfInBounds_toArray, List.set_cons_zero, List.set_cons_succ])
        refine wpAnyH_ready (rs := [3]) (by kernel_rfl) (by simp) ?_
        refine AllReadyH.cons (o := ⟨_, _, _, _, _, _⟩) rfl (fun K hK => ?_) AllReadyH.nil
        go_simp
        refine (canon_any _ hb (by omega)).mono ?_
        rintro e u2 ⟨t2, B2, m2, e2, rfl, j2, d2⟩
        replace hS := bthen hS d2
        (replace ha := ha.call d2); (replace hb := hb.call d2); (replace pa := pa.call d2); (replace pb := pb.call d2); (replace pq := pq.call d2); (replace pr := pr.call d2); (replace j1 := j1.call d2)
        first | (with_reducible refine hK.out _ _ trivial (fun _ => ?_)) | (go_wp2_with fail; with_reducible refine hK.out _ _ trivial (fun _ => ?_))
        clear hK K
        (try simp only [Act.put, List.setIfInBounds_toArray, List.set_cons_zero, List.set_cons_succ])
        refine wpAnyH_ready (rs := [4]) (by kernel_rfl) (by simp) ?_
        refine AllReadyH.cons (o := ⟨_, _, _, _, _, _⟩) rfl (fun K hK => ?_) AllReadyH.nil
        obtain ⟨q0, q1, f0, f1, k0, k1⟩ := pa.all (.bool t1) (.slice B1 m1 e1)
        go_simp
        refine hK.out _ _ trivial (fun _ => ?_)
        clear hK K q0 q1 f0 f1 k0 k1
        replace hS := below_stored hS (g := w.heap.size) (by omega) (.bool t1) (.slice B1 m1 e1)
        replace j1 := j1.stored pa (.bool t1) (.slice B1 m1 e1)
        replace j2 := j2.stored pa (.bool t1) (.slice B1 m1 e1)
        replace pb := pb.far (g' := w.heap.size) (by omega) (.bool t1) (.slice B1 m1 e1)
        replace pq := pq.far (g' := w.heap.size) (by omega) (.bool t1) (.slice B1 m1 e1)
        replace pr := pr.far (g' := w.heap.size) (by omega) (.bool t1) (.slice B1 m1 e1)
        replace pa := pa.stored (s' := t1) (A' := B1) (n' := m1) (c' := e1)
        (try simp only [Act.put, List.setIfInBounds_toArray, List.set_cons_zero, List.set_cons_succ])
        refine wpAnyH_ready (rs := [5]) (by kernel_rfl) (by simp) ?_
        refine AllReadyH.cons (o := ⟨_, _, _, _, _, _⟩) rfl (fun K hK => ?_) AllReadyH.nil
        obtain ⟨q0, q1, f0, f1, k0, k1⟩ := pb.all (.bool t2) (.slice B2 m2 e2)
        go_simp
        refine hK.out _ _ trivial (fun _ => ?_)
        clear hK K q0 q1 f0 f1 k0 k1
        replace hS := below_stored hS (g := w.heap.size + 1) (by omega) (.bool t2) (.slice B2 m2 e2)
        replace j1 := j1.stored pb (.bool t2) (.slice B2 m2 e2)
        replace j2 := j2.stored pb (.bool t2) (.slice B2 m2 e2)
        replace pa := pa.far (g' := w.heap.size + 1) (by omega) (.bool t2) (.slice B2 m2 e2)
        replace pq := pq.far (g' := w.heap.size + 1) (by omega) (.bool t2) (.slice B2 m2 e2)
        replace pr := pr.far (g' := w.heap.size + 1) (by omega) (.bool t2) (.slice B2 m2 e2)
        replace pb := pb.stored (s' := t2) (A' := B2) (n' := m2) (c' := e2)
        (try simp only [Act.put, List.setIfInBounds_toArray, List.set_cons_zero, List.set_cons_succ])
        refine wpAnyH_done (by kernel_rfl) ?_ _
        go_wp2_with fail
        go_meet
        case rel => exact ⟨⟨_, _, _, _, _, _, _, _, pa, pb, j1, j2, hS⟩, pq, pr⟩
    · have c0 := pb.cell0
      have c1 := pb.cell1
      go_simp
      refine hK.out _ _ trivial (fun _ => ?_)
      clear hK K c0 c1
      (try simp only [Act.put, List.setIfInBounds_toArray, List.set_cons_zero, List.set_cons_succ])
      refine wpAnyH_ready (rs := [0]) (by kernel_rfl) (by simp) ?_
      refine AllReadyH.cons (o := ⟨_, _, _, _, _, _⟩) rfl (fun K hK => ?_) AllReadyH.nil
      have c0 := pa.cell0
      have c1 := pa.cell1
      go_simp
      refine hK.out _ _ trivial (fun _ => ?_)
      clear hK K c0 c1
      (try simp only [Act.put, List.setIfInBounds_toArray, List.set_cons_zero, List.set_cons_succ])
      refine wpAnyH_ready (rs := [1]) (by kernel_rfl) (by simp) ?_
      refine AllReadyH.cons (o := ⟨_, _, _, _, _, _⟩) rfl (fun K hK => ?_) AllReadyH.nil
      go_simp
      refine (canon_any _ ha (by omega)).mono ?_
      rintro e u1 ⟨t1, B1, m1, e1, rfl, j1, d1⟩
      replace hS := bthen hS d1
      (replace ha := ha.call d1); (replace hb := hb.call d1); (replace pa := pa.call d1); (replace pb := pb.call d1); (replace pq := pq.call d1); (replace pr := pr.call d1)
      first | (with_reducible refine hK.out _ _ trivial (fun _ => ?_)) | (go_wp2_with fail; with_reducible refine hK.out _ _ trivial (fun _ => ?_))
      clear hK K
      (try simp only [Act.put, List.setIfInBounds_toArray, List.set_cons_zero, List.set_cons_succ])
      refine wpAnyH_ready (rs := [3]) (by kernel_rfl) (by simp) ?_
      refine AllReadyH.cons (o := ⟨_, _, _, _, _, _⟩) rfl (fun K hK => ?_) AllReadyH.nil
      go_simp
      refine (canon_any _ hb (by omega)).mono ?_
      rintro e u2 ⟨t2, B2, m2, e2, rfl, j2, d2⟩
      replace hS := bthen hS d2
      (replace ha := ha.call d2); (replace hb := hb.call d2); (replace pa := pa.call d2); (replace pb := pb.call d2); (replace pq := pq.call d2); (replace pr := pr.call d2); (replace j1 := j1.call d2)
      first | (with_reducible refine hK.out _ _ trivial (fun _ => ?_)) | (go_wp2_with fail; with_reducible refine hK.out _ _ trivial (fun _ => ?_))
      clear hK K
      (try simp only [Act.put, List.setIfInBounds_toArray, List.set_cons_zero, List.set_cons_succ])
      refine wpAnyH_ready (rs := [4]) (by kernel_rfl) (by simp) ?_
      refine AllReadyH.cons (o := ⟨_, _, _, _, _, _⟩) rfl (fun K hK => ?_) AllReadyH.nil
      obtain ⟨q0, q1, f0, f1, k0, k1⟩ := pa.all (.bool t1) (.slice B1 m1 e1)
      go_simp
      refine hK.out _ _ trivial (fun _ => ?_)
      clear hK K q0 q1 f0 f1 k0 k1
      replace hS := below_stored hS (g := w.heap.size) (by omega) (.bool t1) (.slice B1 m1 e1)
      replace j1 := j1.stored pa (.bool t1) (.slice B1 m1 e1)
      replace j2 := j2.stored pa (.bool t1) (.slice B1 m1 e1)
      replace pb := pb.far (g' := w.heap.size) (by omega) (.bool t1) (.slice B1 m1 e1)
      replace pq := pq.far (g' := w.heap.size) (by omega) (.bool t1) (.slice B1 m1 e1)
      replace pr := pr.far (g' := w.heap.size) (by omega) (.bool t1) (.slice B1 m1 e1)
      replace pa := pa.stored (s' := t1) (A' := B1) (n' := m1) (c' := e1)
      (try simp only [Act.put, List.setIfInBounds_toArray, List.set_cons_zero, List.set_cons_succ])
      refine wpAnyH_ready (rs := [5]) (by kernel_rfl) (by simp) ?_
      refine AllReadyH.cons (o := ⟨_, _, _, _, _, _⟩) rfl (fun K hK => ?_) AllReadyH.nil
      obtain ⟨q0, q1, f0, f1, k0, k1⟩ := pb.all (.bool t2) (.slice B2 m2 e2)
      go_simp
      refine hK.out _ _ trivial (fun _ => ?_)
      clear hK K q0 q1 f0 f1 k0 k1
      replace hS := below_stored hS (g := w.heap.size + 1) (by omega) (.bool t2) (.slice B2 m2 e2)
      replace j1 := j1.stored pb (.bool t2) (.slice B2 m2 e2)
      replace j2 := j2.stored pb (.bool t2) (.slice B2 m2 e2)
      replace pa := pa.far (g' := w.heap.size + 1) (by omega) (.bool t2) (.slice B2 m2 e2)
      replace pq := pq.far (g' := w.heap.size + 1) (by omega) (.bool t2) (.slice B2 m2 e2)
      replace pr := pr.far (g' := w.heap.size + 1) (by omega) (.bool t2) (.slice B2 m2 e2)
      replace pb := pb.stored (s' := t2) (A' := B2) (n' := m2) (c' := e2)
      (try simp only [Act.put, List.setIfInBounds_toArray, List.set_cons_zero, List.set_cons_succ])
      refine wpAnyH_done (by kernel_rfl) ?_ _
      go_wp2_with fail
      go_meet
      case rel => exact ⟨⟨_, _, _, _, _, _, _, _, pa, pb, j1, j2, hS⟩, pq, pr⟩
  case rest =>
    obtain ⟨⟨s1, A1, n1, c1, s2, A2, n2, c2, p1, p2, i1, i2, b⟩, p4, p5⟩ := hcut
    clear ha hb pa pb pq pr hS
    obtain ⟨X, rfl⟩ : ∃ X : World, X = wc := ⟨_, rfl⟩
    have l1 : n1 ≤ n := i1.len lx
    have l2 : n2 ≤ n' := i2.len ly
    obtain ⟨a0, a1, b0, b1⟩ := p1.cells p2
    have k2 : n2 = 0 ↔ y = 0 := by rw [← i2.1.len, digits_nil_iff]; omega
    by_cases hy0 : n2 = 0
    · obtain rfl := k2.1 hy0
      subst hy0
      have P1 := p4.stored (s' := false) (A' := none) (n' := 0) (c' := 0)
      have P2 := (p5.far (g' := w.heap.size + 1 + 1) (by omega) (.bool false) (.slice none 0 0)).stored (s' := false) (A' := none) (n' := 0) (c' := 0)
      have P3 := P1.far (g' := w.heap.size + 1 + 1 + 1) (by omega) (.bool false) (.slice none 0 0)
      obtain ⟨q0, q1, f0, f1, k0, k1⟩ := p4.all (.bool false) (.slice none 0 0)
      obtain ⟨q0', q1', f0', f1', k0', k1'⟩ := (p5.far (g' := w.heap.size + 1 + 1) (by omega) (.bool false) (.slice none 0 0)).all (.bool false) (.slice none 0 0)
      have v0 := P3.cell0
      have v1 := P3.cell1
      go_wp2
      refine bodyPost_ret (v := .tuple #[.agg #[.bool false, .slice none 0 0], .agg #[.bool false, .slice none 0 0], .int .i64 11]) (by simp [results, Tryz.results82, go_sem, k0', k1', v0, v1]) rfl ?_
      exact ⟨_, _, _, _, _, _, _, _, _, rfl, by simpa using CInt.zero _, by simpa using CInt.zero _, by simp, below_stored (below_stored b (by omega) _ _) (by omega) _ _⟩
    · have hy1 : y ≠ 0 := fun h => hy0 (k2.2 h)
      have hne : ((n2 : Int) == 0) = false := by simp; omega
      have hx := i1.any.sign_eq
      have hyy := i2.any.sign_eq
      have HX := Lib.hid hx
      have HYE := Lib.hid hyy
      have hb1 : 0 < y.natAbs := by omega
      have HTY := Lib.hid hy1
      have HD := Lib.hid (divDigits_any (c := c1) (c' := c2) X i1.1 i2.1 i1.2.2.1 i1.2.2.2 i2.2.2.1 i2.2.2.2 (by omega) (by omega) (by omega))
      have F1 := Lib.hid (trunc_floor (s := s1) (t := s2) (a := x.natAbs) hb1)
      have F2 := Lib.hid (trunc_floor' (s := s1) (t := s2) (a := x.natAbs) hb1)
      rw [← HX.out, ← HYE.out] at F1 F2
      have lq : (digits (x.natAbs / y.natAbs)).length ≤ n1 := by rw [← i1.1.len]; exact digits_len_mono (Nat.div_le_self _ _)
      have lr : (digits (x.natAbs % y.natAbs)).length ≤ n2 := by rw [← i2.1.len]; exact digits_len_mono (Nat.le_of_lt (Nat.mod_lt _ hb1))
      clear k2 hx hyy hb1
      generalize x.natAbs / y.natAbs = qv at *
      generalize x.natAbs % y.natAbs = rv at *
      go_wp2_with fail
      refine HD.out.mono ?_
      rintro e X1 ⟨A3, n3, c3, A4, n4, c4, rfl, r3, r4, h3, h3', h4, h4', d1⟩
      clear HD a0 a1 b0 b1
      (replace p1 := p1.call d1); (replace p2 := p2.call d1); (replace p4 := p4.call d1); (replace p5 := p5.call d1); (replace i1 := i1.call d1); (replace i2 := i2.call d1)
      replace b := bthen b d1
      have l3 : n3 ≤ n1 := by rw [← r3.len]; exact lq
      have l4 : n4 ≤ n2 := by rw [← r4.len]; exact lr
      clear d1
      go_upto_region 5 with (fail)
      go_cut [9, 10] (fun v v' wz => Box2 X1 wz v v' (sgn (!(s1 == s2)) qv) (sgn s1 rv))
      case first =>
        refine wp_region_held_drew (S := fun w' => Below X1.heap.size X1 w') (by kernel_rfl) (bdrew X1) (fun _ => ?_)
        have hS : Below X1.heap.size X1 X1.drew := bdrew X1
        generalize X1.drew = u0 at hS ⊢
        refine wpAnyH_take (i := 0) (oi := ⟨_, _, _, _, _, _⟩) (v := ?_) rfl (by kernel_rfl) (by kernel_rfl) (by kernel_rfl) (fun _ _ _ h => h) (Or.inl ⟨by rfl, ?_⟩) hS ?_
        rotate_left
        · intro w' hS'; (first | (go_simp; done) | (go_simp; with_reducible rfl) | with_reducible rfl)
        (try simp only [Act.put, List.setIfInBounds_toArray, List.set_cons_zero, List.set_cons_succ])
        refine wpAnyH_take (i := 1) (oi := ⟨_, _, _, _, _, _⟩) (v := ?_) rfl (by kernel_rfl) (by kernel_rfl) (by kernel_rfl) (fun _ _ _ h => h) (Or.inl ⟨by rfl, ?_⟩) hS ?_
        rotate_left
        · intro w' hS'; have p' := p1.call hS'; have c0 := p'.cell0; have c1 := p'.cell1; (first | (go_simp; done) | (go_simp; with_reducible rfl) | with_reducible rfl)
        (try simp only [Act.put, List.setIfInBounds_toArray, List.set_cons_zero, List.set_cons_succ])
        refine wpAnyH_take (i := 2) (oi := ⟨_, _, _, _, _, _⟩) (v := ?_) rfl (by kernel_rfl) (by kernel_rfl) (by kernel_rfl) (fun _ _ _ h => h) (Or.inl ⟨by rfl, ?_⟩) hS ?_
        rotate_left
        · intro w' hS'; (first | (go_simp; done) | (go_simp; with_reducible rfl) | with_reducible rfl)
        (try simp only [Act.put, List.setIfInBounds_toArray, List.set_cons_zero, List.set_cons_succ])
        refine wpAnyH_take (i := 3) (oi := ⟨_, _, _, _, _, _⟩) (v := ?_) rfl (by kernel_rfl) (by kernel_rfl) (by kernel_rfl) (fun _ _ _ h => h) (Or.inl ⟨by rfl, ?_⟩) hS ?_
        rotate_left
        · intro w' hS'; have p' := p2.call hS'; have c0 := p'.cell0; have c1 := p'.cell1; (first | (go_simp; done) | (go_simp; with_reducible rfl) | with_reducible rfl)
        (try simp only [Act.put, List.setIfInBounds_toArray, List.set_cons_zero, List.set_cons_succ])
        refine wpAnyH_take (i := 4) (oi := ⟨_, _, _, _, _, _⟩) (v := ?_) rfl (by kernel_rfl) (by kernel_rfl) (by kernel_rfl) (fun _ _ _ h => h) (Or.inl ⟨by rfl, ?_⟩) hS ?_
        rotate_left
        · intro w' hS'; (first | (go_simp; done) | (go_simp; with_reducible rfl) | with_reducible rfl)
        (try simp only [Act.put, List.setIfInBounds_toArray, List.set_cons_zero, List.set_cons_succ])
        refine wpAnyH_take (i := 5) (oi := ⟨_, _, _, _, _, _⟩) (v := ?_) rfl (by kernel_rfl) (by kernel_rfl) (by kernel_rfl) (fun _ _ _ h => h) (Or.inl ⟨by rfl, ?_⟩) hS ?_
        rotate_left
        · intro w' hS'; (first | (go_simp; done) | (go_simp; with_reducible rfl) | with_reducible rfl)
        (try simp only [Act.put, List.setIfInBounds_toArray, List.set_cons_zero, List.set_cons_succ])
        refine wpAnyH_take (i := 7) (oi := ⟨_, _, _, _, _, _⟩) (v := ?_) rfl (by kernel_rfl) (by kernel_rfl) (by kernel_rfl) (fun _ _ _ h => h) (Or.inl ⟨by rfl, ?_⟩) hS ?_
        rotate_left
        · intro w' hS'; (first | (go_simp; done) | (go_simp; with_reducible rfl) | with_reducible rfl)
        (try simp only [Act.put, List.setIfInBounds_toArray, List.set_cons_zero, List.set_cons_succ])
        refine wpAnyH_take (i := 8) (oi := ⟨_, _, _, _, _, _⟩) (v := ?_) rfl (by kernel_rfl) (by kernel_rfl) (by kernel_rfl) (fun _ _ _ h => h) (Or.inl ⟨by rfl, ?_⟩) hS ?_
        rotate_left
        · intro w' hS'; have p' := p1.call hS'; have c0 := p'.cell0; have c1 := p'.cell1; (first | (go_simp; done) | (go_simp; with_reducible rfl) | with_reducible rfl)
        (try simp only [Act.put, List.setIfInBounds_toArray, List.set_cons_zero, List.set_cons_succ])
        refine wpAnyH_take (i := 9) (oi := ⟨_, _, _, _, _, _⟩) (v := ?_) rfl (by kernel_rfl) (by kernel_rfl) (by kernel_rfl) (fun _ _ _ h => h) (Or.inl ⟨by rfl, ?_⟩) hS ?_
        rotate_left
        · intro w' hS'; (first | (go_simp; done) | (go_simp; with_reducible rfl) | with_reducible rfl)
        (try simp only [Act.put, List.setIfInBounds_toArray, List.set_cons_zero, List.set_cons_succ])
        refine wpAnyH_ready (rs := [6, 11, 12]) (by kernel_rfl) (by simp) ?_
        refine AllReadyH.cons (o := ⟨_, _, _, _, _, _⟩) rfl (fun K hK => ?_) (AllReadyH.cons (o := ⟨_, _, _, _, _, _⟩) rfl (fun K hK => ?_) (AllReadyH.cons (o := ⟨_, _, _, _, _, _⟩) rfl (fun K hK => ?_) AllReadyH.nil))
        · go_simp
          refine (make_mag (!(s1 == s2)) _ (r3.call hS) h3 h3' (by omega)).mono ?_
          rintro e u1 ⟨t1, B1, m1, e1, rfl, j1, d1⟩
          replace hS := bthen hS d1
          first | (with_reducible refine hK.out _ _ hS (fun _ => ?_)) | (go_wp2_with fail; with_reducible refine hK.out _ _ hS (fun _ => ?_))
          clear hK K
          (try simp only [Act.put, List.setIfInBounds_toArray, List.set_cons_zero, List.set_cons_succ])
          refine wpAnyH_ready (rs := [10, 11, 12]) (by kernel_rfl) (by simp) ?_
          refine AllReadyH.cons (o := ⟨_, _, _, _, _, _⟩) rfl (fun K hK => ?_) (AllReadyH.cons (o := ⟨_, _, _, _, _, _⟩) rfl (fun K hK => ?_) (AllReadyH.cons (o := ⟨_, _, _, _, _, _⟩) rfl (fun K hK => ?_) AllReadyH.nil))
          · go_simp
            refine (make_mag s1 _ (r4.call hS) h4 h4' (by omega)).mono ?_
            rintro e u2 ⟨t2, B2, m2, e2, rfl, j2, d2⟩
            replace hS := bthen hS d2
            (replace j1 := j1.call d2)
            first | (with_reducible refine hK.out _ _ hS (fun _ => ?_)) | (go_wp2_with fail; with_reducible refine hK.out _ _ hS (fun _ => ?_))
            clear hK K
            (try simp only [Act.put, List.setIfInBounds_toArray, List.set_cons_zero, List.set_cons_succ])
            refine wpAnyH_ready (rs := [11, 12]) (by kernel_rfl) (by simp) ?_
            refine AllReadyH.cons (o := ⟨_, _, _, _, _, _⟩) rfl (fun K hK => ?_) (AllReadyH.cons (o := ⟨_, _, _, _, _, _⟩) rfl (fun K hK => ?_) AllReadyH.nil)
            · go_simp
              have pz9 := Pr.new u2 false none 0 0
              have az := bone u2 (.cells #[.bool false, .slice none 0 0] 24)
              have hz9 := hS.size
              replace hS := bthen hS az
              (replace j1 := j1.call az); (replace j2 := j2.call az)
              refine hK.out _ _ hS (fun _ => ?_)
              clear hK K az
              generalize hgz : u2.heap.size = gz9 at hz9 pz9 ⊢
              clear hgz
              generalize u2.alloc (.cells #[.bool false, .slice none 0 0] 24) = u2z9 at *
              (try simp only [Act.put, List.setIfInBounds_toArray, List.set_cons_zero, List.set_cons_succ])
              refine wpAnyH_ready (rs := [12]) (by kernel_rfl) (by simp) ?_
              refine AllReadyH.cons (o := ⟨_, _, _, _, _, _⟩) rfl (fun K hK => ?_) AllReadyH.nil
              go_simp
              have pz10 := Pr.new u2z9 false none 0 0
              have az := bone u2z9 (.cells #[.bool false, .slice none 0 0] 24)
              have hz10 := hS.size
              have lt9_10 := pz9.lt
              replace hS := bthen hS az
              (replace j1 := j1.call az); (replace j2 := j2.call az); (replace pz9 := pz9.call az)
              refine hK.out _ _ hS (fun _ => ?_)
              clear hK K az
              generalize hgz : u2z9.heap.size = gz10 at hz10 pz10 ⊢ lt9_10
              clear hgz
              generalize u2z9.alloc (.cells #[.bool false, .slice none 0 0] 24) = u2z9z10 at *
              (try simp only [Act.put, List.setIfInBounds_toArray, List.set_cons_zero, List.set_cons_succ])
              refine wpAnyH_ready (rs := [13]) (by kernel_rfl) (by simp) ?_
              refine AllReadyH.cons (o := ⟨_, _, _, _, _, _⟩) rfl (fun K hK => ?_) AllReadyH.nil
              obtain ⟨q0, q1, f0, f1, k0, k1⟩ := pz9.all (.bool t1) (.slice B1 m1 e1)
              go_simp
              replace hS := below_stored hS hz9 (.bool t1) (.slice B1 m1 e1)
              refine hK.out _ _ hS (fun _ => ?_)
              clear hK K q0 q1 f0 f1 k0 k1
              replace j1 := j1.stored pz9 (.bool t1) (.slice B1 m1 e1)
              replace j2 := j2.stored pz9 (.bool t1) (.slice B1 m1 e1)
              replace pz10 := pz10.far (g' := gz9) (by omega) (.bool t1) (.slice B1 m1 e1)
              replace pz9 := pz9.stored (s' := t1) (A' := B1) (n' := m1) (c' := e1)
              (try simp only [Act.put, List.setIfInBounds_toArray, List.set_cons_zero, List.set_cons_succ])
              refine wpAnyH_ready (rs := [14]) (by kernel_rfl) (by simp) ?_
              refine AllReadyH.cons (o := ⟨_, _, _, _, _, _⟩) rfl (fun K hK => ?_) AllReadyH.nil
              obtain ⟨q0, q1, f0, f1, k0, k1⟩ := pz10.all (.bool t2) (.slice B2 m2 e2)
              go_simp
              replace hS := below_stored hS hz10 (.bool t2) (.slice B2 m2 e2)
              refine hK.out _ _ hS (fun _ => ?_)
              clear hK K q0 q1 f0 f1 k0 k1
              replace j1 := j1.stored pz10 (.bool t2) (.slice B2 m2 e2)
              replace j2 := j2.stored pz10 (.bool t2) (.slice B2 m2 e2)
              replace pz9 := pz9.far (g' := gz10) (by omega) (.bool t2) (.slice B2 m2 e2)
              replace pz10 := pz10.stored (s' := t2) (A' := B2) (n' := m2) (c' := e2)
              (try simp only [Act.put, List.setIfInBounds_toArray, List.set_cons_zero, List.set_cons_succ])
              refine wpAnyH_done (by kernel_rfl) ?_ _
              go_wp2_with fail
              go_meet
              case rel => exact ⟨_, _, _, _, _, _, _, _, _, _, rfl, rfl, pz9, pz10, j1, j2, hS, hz9, hz10, by omega⟩
            · go_simp
              have pz10 := Pr.new u2 false none 0 0
              have az := bone u2 (.cells #[.bool false, .slice none 0 0] 24)
              have hz10 := hS.size
              replace hS := bthen hS az
              (replace j1 := j1.call az); (replace j2 := j2.call az)
              refine hK.out _ _ hS (fun _ => ?_)
              clear hK K az
              generalize hgz : u2.heap.size = gz10 at hz10 pz10 ⊢
              clear hgz
              generalize u2.alloc (.cells #[.bool false, .slice none 0 0] 24) = u2z10 at *
              (try simp only [Act.put, List.setIfInBounds_toArray, List.set_cons_zero, List.set_cons_succ])
              refine wpAnyH_ready (rs := [11]) (by kernel_rfl) (by simp) ?_
              refine AllReadyH.cons (o := ⟨_, _, _, _, _, _⟩) rfl (fun K hK => ?_) AllReadyH.nil
              go_simp
              have pz9 := Pr.new u2z10 false none 0 0
              have az := bone u2z10 (.cells #[.bool false, .slice none 0 0] 24)
              have hz9 := hS.size
              have lt10_9 := pz10.lt
              replace hS := bthen hS az
              (replace j1 := j1.call az); (replace j2 := j2.call az); (replace pz10 := pz10.call az)
              refine hK.out _ _ hS (fun _ => ?_)
              clear hK K az
              generalize hgz : u2z10.heap.size = gz9 at hz9 pz9 ⊢ lt10_9
              clear hgz
              generalize u2z10.alloc (.cells #[.bool false, .slice none 0 0] 24) = u2z10z9 at *
              (try simp only [Act.put, List.setIfInBounds_toArray, List.set_cons_zero, List.set_cons_succ])
              refine wpAnyH_ready (rs := [13]) (by kernel_rfl) (by simp) ?_
              refine AllReadyH.cons (o := ⟨_, _, _, _, _, _⟩) rfl (fun K hK => ?_) AllReadyH.nil
              obtain ⟨q0, q1, f0, f1, k0, k1⟩ := pz9.all (.bool t1) (.slice B1 m1 e1)
              go_simp
              replace hS := below_stored hS hz9 (.bool t1) (.slice B1 m1 e1)
              refine hK.out _ _ hS (fun _ => ?_)
              clear hK K q0 q1 f0 f1 k0 k1
              replace j1 := j1.stored pz9 (.bool t1) (.slice B1 m1 e1)
              replace j2 := j2.stored pz9 (.bool t1) (.slice B1 m1 e1)
              replace pz10 := pz10.far (g' := gz9) (by omega) (.bool t1) (.slice B1 m1 e1)
              replace pz9 := pz9.stored (s' := t1) (A' := B1) (n' := m1) (c' := e1)
              (try simp only [Act.put, List.setIfInBounds_toArray, List.set_cons_zero, List.set_cons_succ])
              refine wpAnyH_ready (rs := [14]) (by kernel_rfl) (by simp) ?_
              refine AllReadyH.cons (o := ⟨_, _, _, _, _, _⟩) rfl (fun K hK => ?_) AllReadyH.nil
              obtain ⟨q0, q1, f0, f1, k0, k1⟩ := pz10.all (.bool t2) (.slice B2 m2 e2)
              go_simp
              replace hS := below_stored hS hz10 (.bool t2) (.slice B2 m2 e2)
              refine hK.out _ _ hS (fun _ => ?_)
              clear hK K q0 q1 f0 f1 k0 k1
              replace j1 := j1.stored pz10 (.bool t2) (.slice B2 m2 e2)
              replace j2 := j2.stored pz10 (.bool t2) (.slice B2 m2 e2)
              replace pz9 := pz9.far (g' := gz10) (by omega) (.bool t2) (.slice B2 m2 e2)
              replace pz10 := pz10.stored (s' := t2) (A' := B2) (n' := m2) (c' := e2)
              (try simp only [Act.put, List.setIfInBounds_toArray, List.set_cons_zero, List.set_cons_succ])
              refine wpAnyH_done (by kernel_rfl) ?_ _
              go_wp2_with fail
              go_meet
              case rel => exact ⟨_, _, _, _, _, _, _, _, _, _, rfl, rfl, pz9, pz10, j1, j2, hS, hz9, hz10, by omega⟩
          · go_simp
            have pz9 := Pr.new u1 false none 0 0
            have az := bone u1 (.cells #[.bool false, .slice none 0 0] 24)
            have hz9 := hS.size
            replace hS := bthen hS az
            (replace j1 := j1.call az)
            refine hK.out _ _ hS (fun _ => ?_)
            clear hK K az
            generalize hgz : u1.heap.size = gz9 at hz9 pz9 ⊢
            clear hgz
            generalize u1.alloc (.cells #[.bool false, .slice none 0 0] 24) = u1z9 at *
            (try simp only [Act.put, List.setIfInBounds_toArray, List.set_cons_zero, List.set_cons_succ])
            refine wpAnyH_ready (rs := [10, 12]) (by kernel_rfl) (by simp) ?_
            refine AllReadyH.cons (o := ⟨_, _, _, _, _, _⟩) rfl (fun K hK => ?_) (AllReadyH.cons (o := ⟨_, _, _, _, _, _⟩) rfl (fun K hK => ?_) AllReadyH.nil)
            · go_simp
              refine (make_mag s1 _ (r4.call hS) h4 h4' (by omega)).mono ?_
              rintro e u2 ⟨t2, B2, m2, e2, rfl, j2, d2⟩
              replace hS := bthen hS d2
              (replace j1 := j1.call d2); (replace pz9 := pz9.call d2)
              first | (with_reducible refine hK.out _ _ hS (fun _ => ?_)) | (go_wp2_with fail; with_reducible refine hK.out _ _ hS (fun _ => ?_))
              clear hK K
              (try simp only [Act.put, List.setIfInBounds_toArray, List.set_cons_zero, List.set_cons_succ])
              refine wpAnyH_ready (rs := [12]) (by kernel_rfl) (by simp) ?_
              refine AllReadyH.cons (o := ⟨_, _, _, _, _, _⟩) rfl (fun K hK => ?_) AllReadyH.nil
              go_simp
              have pz10 := Pr.new u2 false none 0 0
              have az := bone u2 (.cells #[.bool false, .slice none 0 0] 24)
              have hz10 := hS.size
              have lt9_10 := pz9.lt
              replace hS := bthen hS az
              (replace j1 := j1.call az); (replace j2 := j2.call az); (replace pz9 := pz9.call az)
              refine hK.out _ _ hS (fun _ => ?_)
              clear hK K az
              generalize hgz : u2.heap.size = gz10 at hz10 pz10 ⊢ lt9_10
              clear hgz
              generalize u2.alloc (.cells #[.bool false, .slice none 0 0] 24) = u2z10 at *
              (try simp only [Act.put, List.setIfInBounds_toArray, List.set_cons_zero, List.set_cons_succ])
              refine wpAnyH_ready (rs := [13]) (by kernel_rfl) (by simp) ?_
              refine AllReadyH.cons (o := ⟨_, _, _, _, _, _⟩) rfl (fun K hK => ?_) AllReadyH.nil
              obtain ⟨q0, q1, f0, f1, k0, k1⟩ := pz9.all (.bool t1) (.slice B1 m1 e1)
              go_simp
              replace hS := below_stored hS hz9 (.bool t1) (.slice B1 m1 e1)
              refine hK.out _ _ hS (fun _ => ?_)
              clear hK K q0 q1 f0 f1 k0 k1
              replace j1 := j1.stored pz9 (.bool t1) (.slice B1 m1 e1)
              replace j2 := j2.stored pz9 (.bool t1) (.slice B1 m1 e1)
              replace pz10 := pz10.far (g' := gz9) (by omega) (.bool t1) (.slice B1 m1 e1)
              replace pz9 := pz9.stored (s' := t1) (A' := B1) (n' := m1) (c' := e1)
              (try simp only [Act.put, List.setIfInBounds_toArray, List.set_cons_zero, List.set_cons_succ])
              refine wpAnyH_ready (rs := [14]) (by kernel_rfl) (by simp) ?_
              refine AllReadyH.cons (o := ⟨_, _, _, _, _, _⟩) rfl (fun K hK => ?_) AllReadyH.nil
              obtain ⟨q0, q1, f0, f1, k0, k1⟩ := pz10.all (.bool t2) (.slice B2 m2 e2)
              go_simp
              replace hS := below_stored hS hz10 (.bool t2) (.slice B2 m2 e2)
              refine hK.out _ _ hS (fun _ => ?_)
              clear hK K q0 q1 f0 f1 k0 k1
              replace j1 := j1.stored pz10 (.bool t2) (.slice B2 m2 e2)
              replace j2 := j2.stored pz10 (.bool t2) (.slice B2 m2 e2)
              replace pz9 := pz9.far (g' := gz10) (by omega) (.bool t2) (.slice B2 m2 e2)
              replace pz10 := pz10.stored (s' := t2) (A' := B2) (n' := m2) (c' := e2)
              (try simp only [Act.put, List.setIfInBounds_toArray, List.set_cons_zero, List.set_cons_succ])
              refine wpAnyH_done (by kernel_rfl) ?_ _
              go_wp2_with fail
              go_meet
              case rel => exact ⟨_, _, _, _, _, _, _, _, _, _, rfl, rfl, pz9, pz10, j1, j2, hS, hz9, hz10, by omega⟩
            · go_simp
              have pz10 := Pr.new u1z9 false none 0 0
              have az := bone u1z9 (.cells #[.bool false, .slice none 0 0] 24)
              have hz10 := hS.size
              have lt9_10 := pz9.lt
              replace hS := bthen hS az
              (replace j1 := j1.call az); (replace pz9 := pz9.call az)
              refine hK.out _ _ hS (fun _ => ?_)
              clear hK K az
              generalize hgz : u1z9.heap.size = gz10 at hz10 pz10 ⊢ lt9_10
              clear hgz
              generalize u1z9.alloc (.cells #[.bool false, .slice none 0 0] 24) = u1z9z10 at *
              (try simp only [Act.put, List.setIfInBounds_toArray, List.set_cons_zero, List.set_cons_succ])
              refine wpAnyH_ready (rs := [10]) (by kernel_rfl) (by simp) ?_
              refine AllReadyH.cons (o := ⟨_, _, _, _, _, _⟩) rfl (fun K hK => ?_) AllReadyH.nil
              go_simp
              refine (make_mag s1 _ (r4.call hS) h4 h4' (by omega)).mono ?_
              rintro e u2 ⟨t2, B2, m2, e2, rfl, j2, d2⟩
              replace hS := bthen hS d2
              (replace j1 := j1.call d2); (replace pz9 := pz9.call d2); (replace pz10 := pz10.call d2)
              first | (with_reducible refine hK.out _ _ hS (fun _ => ?_)) | (go_wp2_with fail; with_reducible refine hK.out _ _ hS (fun _ => ?_))
              clear hK K
              (try simp only [Act.put, List.setIfInBounds_toArray, List.set_cons_zero, List.set_cons_succ])
              refine wpAnyH_ready (rs := [13]) (by kernel_rfl) (by simp) ?_
              refine AllReadyH.cons (o := ⟨_, _, _, _, _, _⟩) rfl (fun K hK => ?_) AllReadyH.nil
              obtain ⟨q0, q1, f0, f1, k0, k1⟩ := pz9.all (.bool t1) (.slice B1 m1 e1)
              go_simp
              replace hS := below_stored hS hz9 (.bool t1) (.slice B1 m1 e1)
              refine hK.out _ _ hS (fun _ => ?_)
              clear hK K q0 q1 f0 f1 k0 k1
              replace j1 := j1.stored pz9 (.bool t1) (.slice B1 m1 e1)
              replace j2 := j2.stored pz9 (.bool t1) (.slice B1 m1 e1)
              replace pz10 := pz10.far (g' := gz9) (by omega) (.bool t1) (.slice B1 m1 e1)
              replace pz9 := pz9.stored (s' := t1) (A' := B1) (n' := m1) (c' := e1)
              (try simp only [Act.put, List.setIfInBounds_toArray, List.set_cons_zero, List.set_cons_succ])
              refine wpAnyH_ready (rs := [14]) (by kernel_rfl) (by simp) ?_
              refine AllReadyH.cons (o := ⟨_, _, _, _, _, _⟩) rfl (fun K hK => ?_) AllReadyH.nil
              obtain ⟨q0, q1, f0, f1, k0, k1⟩ := pz10.all (.bool t2) (.slice B2 m2 e2)
              go_simp
              replace hS := below_stored hS hz10 (.bool t2) (.slice B2 m2 e2)
              refine hK.out _ _ hS (fun _ => ?_)
              clear hK K q0 q1 f0 f1 k0 k1
              replace j1 := j1.stored pz10 (.bool t2) (.slice B2 m2 e2)
              replace j2 := j2.stored pz10 (.bool t2) (.slice B2 m2 e2)
              replace pz9 := pz9.far (g' := gz10) (by omega) (.bool t2) (.slice B2 m2 e2)
              replace pz10 := pz10.stored (s' := t2) (A' := B2) (n' := m2) (c' := e2)
              (try simp only [Act.put, List.setIfInBounds_toArray, List.set_cons_zero, List.set_cons_succ])
              refine wpAnyH_done (by kernel_rfl) ?_ _
              go_wp2_with fail
              go_meet
              case rel => exact ⟨_, _, _, _, _, _, _, _, _, _, rfl, rfl, pz9, pz10, j1, j2, hS, hz9, hz10, by omega⟩
          · go_simp
            have pz10 := Pr.new u1 false none 0 0
            have az := bone u1 (.cells #[.bool false, .slice none 0 0] 24)
            have hz10 := hS.size
            replace hS := bthen hS az
            (replace j1 := j1.call az)
            refine hK.out _ _ hS (fun _ => ?_)
            clear hK K az
            generalize hgz : u1.heap.size = gz10 at hz10 pz10 ⊢
            clear hgz
            generalize u1.alloc (.cells #[.bool false, .slice none 0 0] 24) = u1z10 at *
            (try simp only [Act.put, List.setIfInBounds_toArray, List.set_cons_zero, List.set_cons_succ])
            refine wpAnyH_ready (rs := [10, 11]) (by kernel_rfl) (by simp) ?_
            refine AllReadyH.cons (o := ⟨_, _, _, _, _, _⟩) rfl (fun K hK => ?_) (AllReadyH.cons (o := ⟨_, _, _, _, _, _⟩) rfl (fun K hK => ?_) AllReadyH.nil)
            · go_simp
              refine (make_mag s1 _ (r4.call hS) h4 h4' (by omega)).mono ?_
              rintro e u2 ⟨t2, B2, m2, e2, rfl, j2, d2⟩
              replace hS := bthen hS d2
              (replace j1 := j1.call d2); (replace pz10 := pz10.call d2)
              first | (with_reducible refine hK.out _ _ hS (fun _ => ?_)) | (go_wp2_with fail; with_reducible refine hK.out _ _ hS (fun _ => ?_))
              clear hK K
              (try simp only [Act.put, List.setIfInBounds_toArray, List.set_cons_zero, List.set_cons_succ])
              refine wpAnyH_ready (rs := [11]) (by kernel_rfl) (by simp) ?_
              refine AllReadyH.cons (o := ⟨_, _, _, _, _, _⟩) rfl (fun K hK => ?_) AllReadyH.nil
              go_simp
              have pz9 := Pr.new u2 false none 0 0
              have az := bone u2 (.cells #[.bool false, .slice none 0 0] 24)
              have hz9 := hS.size
              have lt10_9 := pz10.lt
              replace hS := bthen hS az
              (replace j1 := j1.call az); (replace j2 := j2.call az); (replace pz10 := pz10.call az)
              refine hK.out _ _ hS (fun _ => ?_)
              clear hK K az
              generalize hgz : u2.heap.size = gz9 at hz9 pz9 ⊢ lt10_9
              clear hgz
              generalize u2.alloc (.cells #[.bool false, .slice none 0 0] 24) = u2z9 at *
              (try simp only [Act.put, List.setIfInBounds_toArray, List.set_cons_zero, List.set_cons_succ])
              refine wpAnyH_ready (rs := [13]) (by kernel_rfl) (by simp) ?_
              refine AllReadyH.cons (o := ⟨_, _, _, _, _, _⟩) rfl (fun K hK => ?_) AllReadyH.nil
              obtain ⟨q0, q1, f0, f1, k0, k1⟩ := pz9.all (.bool t1) (.slice B1 m1 e1)
              go_simp
              replace hS := below_stored hS hz9 (.bool t1) (.slice B1 m1 e1)
              refine hK.out _ _ hS (fun _ => ?_)
              clear hK K q0 q1 f0 f1 k0 k1
              replace j1 := j1.stored pz9 (.bool t1) (.slice B1 m1 e1)
              replace j2 := j2.stored pz9 (.bool t1) (.slice B1 m1 e1)
              replace pz10 := pz10.far (g' := gz9) (by omega) (.bool t1) (.slice B1 m1 e1)
              replace pz9 := pz9.stored (s' := t1) (A' := B1) (n' := m1) (c' := e1)
              (try simp only [Act.put, List.setIfInBounds_toArray, List.set_cons_zero, List.set_cons_succ])
              refine wpAnyH_ready (rs := [14]) (by kernel_rfl) (by simp) ?_
              refine AllReadyH.cons (o := ⟨_, _, _, _, _, _⟩) rfl (fun K hK => ?_) AllReadyH.nil
              obtain ⟨q0, q1, f0, f1, k0, k1⟩ := pz10.all (.bool t2) (.slice B2 m2 e2)
              go_simp
              replace hS := below_stored hS hz10 (.bool t2) (.slice B2 m2 e2)
              refine hK.out _ _ hS (fun _ => ?_)
              clear hK K q0 q1 f0 f1 k0 k1
              replace j1 := j1.stored pz10 (.bool t2) (.slice B2 m2 e2)
              replace j2 := j2.stored pz10 (.bool t2) (.slice B2 m2 e2)
              replace pz9 := pz9.far (g' := gz10) (by omega) (.bool t2) (.slice B2 m2 e2)
              replace pz10 := pz10.stored (s' := t2) (A' := B2) (n' := m2) (c' := e2)
              (try simp only [Act.put, List.setIfInBounds_toArray, List.set_cons_zero, List.set_cons_succ])
              refine wpAnyH_done (by kernel_rfl) ?_ _
              go_wp2_with fail
              go_meet
              case rel => exact ⟨_, _, _, _, _, _, _, _, _, _, rfl, rfl, pz9, pz10, j1, j2, hS, hz9, hz10, by omega⟩
            · go_simp
              have pz9 := Pr.new u1z10 false none 0 0
              have az := bone u1z10 (.cells #[.bool false, .slice none 0 0] 24)
              have hz9 := hS.size
              have lt10_9 := pz10.lt
              replace hS := bthen hS az
              (replace j1 := j1.call az); (replace pz10 := pz10.call az)
              refine hK.out _ _ hS (fun _ => ?_)
              clear hK K az
              generalize hgz : u1z10.heap.size = gz9 at hz9 pz9 ⊢ lt10_9
              clear hgz
              generalize u1z10.alloc (.cells #[.bool false, .slice none 0 0] 24) = u1z10z9 at *
              (try simp only [Act.put, List.setIfInBounds_toArray, List.set_cons_zero, List.set_cons_succ])
              refine wpAnyH_ready (rs := [10]) (by kernel_rfl) (by simp) ?_
              refine AllReadyH.cons (o := ⟨_, _, _, _, _, _⟩) rfl (fun K hK => ?_) AllReadyH.nil
              go_simp
              refine (make_mag s1 _ (r4.call hS) h4 h4' (by omega)).mono ?_
              rintro e u2 ⟨t2, B2, m2, e2, rfl, j2, d2⟩
              replace hS := bthen hS d2
              (replace j1 := j1.call d2); (replace pz10 := pz10.call d2); (replace pz9 := pz9.call d2)
              first | (with_reducible refine hK.out _ _ hS (fun _ => ?_)) | (go_wp2_with fail; with_reducible refine hK.out _ _ hS (fun _ => ?_))
              clear hK K
              (try simp only [Act.put, List.setIfInBounds_toArray, List.set_cons_zero, List.set_cons_succ])
              refine wpAnyH_ready (rs := [13]) (by kernel_rfl) (by simp) ?_
              refine AllReadyH.cons (o := ⟨_, _, _, _, _, _⟩) rfl (fun K hK => ?_) AllReadyH.nil
              obtain ⟨q0, q1, f0, f1, k0, k1⟩ := pz9.all (.bool t1) (.slice B1 m1 e1)
              go_simp
              replace hS := below_stored hS hz9 (.bool t1) (.slice B1 m1 e1)
              refine hK.out _ _ hS (fun _ => ?_)
              clear hK K q0 q1 f0 f1 k0 k1
              replace j1 := j1.stored pz9 (.bool t1) (.slice B1 m1 e1)
              replace j2 := j2.stored pz9 (.bool t1) (.slice B1 m1 e1)
              replace pz10 := pz10.far (g' := gz9) (by omega) (.bool t1) (.slice B1 m1 e1)
              replace pz9 := pz9.stored (s' := t1) (A' := B1) (n' := m1) (c' := e1)
              (try simp only [Act.put, List.setIfInBounds_toArray, List.set_cons_zero, List.set_cons_succ])
              refine wpAnyH_ready (rs := [14]) (by kernel_rfl) (by simp) ?_
              refine AllReadyH.cons (o := ⟨_, _, _, _, _, _⟩) rfl (fun K hK => ?_) AllReadyH.nil
              obtain ⟨q0, q1, f0, f1, k0, k1⟩ := pz10.all (.bool t2) (.slice B2 m2 e2)
              go_simp
              replace hS := below_stored hS hz10 (.bool t2) (.slice B2 m2 e2)
              refine hK.out _ _ hS (fun _ => ?_)
              clear hK K q0 q1 f0 f1 k0 k1
              replace j1 := j1.stored pz10 (.bool t2) (.slice B2 m2 e2)
              replace j2 := j2.stored pz10 (.bool t2) (.slice B2 m2 e2)
              replace pz9 := pz9.far (g' := gz10) (by omega) (.bool t2) (.slice B2 m2 e2)
              replace pz10 := pz10.stored (s' := t2) (A' := B2) (n' := m2) (c' := e2)
              (try simp only [Act.put, List.setIfInBounds_toArray, List.set_cons_zero, List.set_cons_succ])
              refine wpAnyH_done (by kernel_rfl) ?_ _
              go_wp2_with fail
              go_meet
              case rel => exact ⟨_, _, _, _, _, _, _, _, _, _, rfl, rfl, pz9, pz10, j1, j2, hS, hz9, hz10, by omega⟩
        · go_simp
          have pz9 := Pr.new u0 false none 0 0
          have az := bone u0 (.cells #[.bool false, .slice none 0 0] 24)
          have hz9 := hS.size
          replace hS := bthen hS az
          refine hK.out _ _ hS (fun _ => ?_)
          clear hK K az
          generalize hgz : u0.heap.size = gz9 at hz9 pz9 ⊢
          clear hgz
          generalize u0.alloc (.cells #[.bool false, .slice none 0 0] 24) = u0z9 at *
          (try simp only [Act.put, List.setIfInBounds_toArray, List.set_cons_zero, List.set_cons_succ])
          refine wpAnyH_ready (rs := [6, 12]) (by kernel_rfl) (by simp) ?_
          refine AllReadyH.cons (o := ⟨_, _, _, _, _, _⟩) rfl (fun K hK => ?_) (AllReadyH.cons (o := ⟨_, _, _, _, _, _⟩) rfl (fun K hK => ?_) AllReadyH.nil)
          · go_simp
            refine (make_mag (!(s1 == s2)) _ (r3.call hS) h3 h3' (by omega)).mono ?_
            rintro e u1 ⟨t1, B1, m1, e1, rfl, j1, d1⟩
            replace hS := bthen hS d1
            (replace pz9 := pz9.call d1)
            first | (with_reducible refine hK.out _ _ hS (fun _ => ?_)) | (go_wp2_with fail; with_reducible refine hK.out _ _ hS (fun _ => ?_))
            clear hK K
            (try simp only [Act.put, List.setIfInBounds_toArray, List.set_cons_zero, List.set_cons_succ])
            refine wpAnyH_ready (rs := [10, 12]) (by kernel_rfl) (by simp) ?_
            refine AllReadyH.cons (o := ⟨_, _, _, _, _, _⟩) rfl (fun K hK => ?_) (AllReadyH.cons (o := ⟨_, _, _, _, _, _⟩) rfl (fun K hK => ?_) AllReadyH.nil)
            · go_simp
              refine (make_mag s1 _ (r4.call hS) h4 h4' (by omega)).mono ?_
              rintro e u2 ⟨t2, B2, m2, e2, rfl, j2, d2⟩
              replace hS := bthen hS d2
              (replace j1 := j1.call d2); (replace pz9 := pz9.call d2)
              first | (with_reducible refine hK.out _ _ hS (fun _ => ?_)) | (go_wp2_with fail; with_reducible refine hK.out _ _ hS (fun _ => ?_))
              clear hK K
              (try simp only [Act.put, List.setIfInBounds_toArray, List.set_cons_zero, List.set_cons_succ])
              refine wpAnyH_ready (rs := [12]) (by kernel_rfl) (by simp) ?_
              refine AllReadyH.cons (o := ⟨_, _, _, _, _, _⟩) rfl (fun K hK => ?_) AllReadyH.nil
              go_simp
              have pz10 := Pr.new u2 false none 0 0
              have az := bone u2 (.cells #[.bool false, .slice none 0 0] 24)
              have hz10 := hS.size
              have lt9_10 := pz9.lt
              replace hS := bthen hS az
              (replace j1 := j1.call az); (replace j2 := j2.call az); (replace pz9 := pz9.call az)
              refine hK.out _ _ hS (fun _ => ?_)
              clear hK K az
              generalize hgz : u2.heap.size = gz10 at hz10 pz10 ⊢ lt9_10
              clear hgz
              generalize u2.alloc (.cells #[.bool false, .slice none 0 0] 24) = u2z10 at *
              (try simp only [Act.put, List.setIfInBounds_toArray, List.set_cons_zero, List.set_cons_succ])
              refine wpAnyH_ready (rs := [13]) (by kernel_rfl) (by simp) ?_
              refine AllReadyH.cons (o := ⟨_, _, _, _, _, _⟩) rfl (fun K hK => ?_) AllReadyH.nil
              obtain ⟨q0, q1, f0, f1, k0, k1⟩ := pz9.all (.bool t1) (.slice B1 m1 e1)
              go_simp
              replace hS := below_stored hS hz9 (.bool t1) (.slice B1 m1 e1)
              refine hK.out _ _ hS (fun _ => ?_)
              clear hK K q0 q1 f0 f1 k0 k1
              replace j1 := j1.stored pz9 (.bool t1) (.slice B1 m1 e1)
              replace j2 := j2.stored pz9 (.bool t1) (.slice B1 m1 e1)
              replace pz10 := pz10.far (g' := gz9) (by omega) (.bool t1) (.slice B1 m1 e1)
              replace pz9 := pz9.stored (s' := t1) (A' := B1) (n' := m1) (c' := e1)
              (try simp only [Act.put, List.setIfInBounds_toArray, List.set_cons_zero, List.set_cons_succ])
              refine wpAnyH_ready (rs := [14]) (by kernel_rfl) (by simp) ?_
              refine AllReadyH.cons (o := ⟨_, _, _, _, _, _⟩) rfl (fun K hK => ?_) AllReadyH.nil
              obtain ⟨q0, q1, f0, f1, k0, k1⟩ := pz10.all (.bool t2) (.slice B2 m2 e2)
              go_simp
              replace hS := below_stored hS hz10 (.bool t2) (.slice B2 m2 e2)
              refine hK.out _ _ hS (fun _ => ?_)
              clear hK K q0 q1 f0 f1 k0 k1
              replace j1 := j1.stored pz10 (.bool t2) (.slice B2 m2 e2)
              replace j2 := j2.stored pz10 (.bool t2) (.slice B2 m2 e2)
              replace pz9 := pz9.far (g' := gz10) (by omega) (.bool t2) (.slice B2 m2 e2)
              replace pz10 := pz10.stored (s' := t2) (A' := B2) (n' := m2) (c' := e2)
              (try simp only [Act.put, List.setIfInBounds_toArray, List.set_cons_zero, List.set_cons_succ])
              refine wpAnyH_done (by kernel_rfl) ?_ _
              go_wp2_with fail
              go_meet
              case rel => exact ⟨_, _, _, _, _, _, _, _, _, _, rfl, rfl, pz9, pz10, j1, j2, hS, hz9, hz10, by omega⟩
            · go_simp
              have pz10 := Pr.new u1 false none 0 0
              have az := bone u1 (.cells #[.bool false, .slice none 0 0] 24)
              have hz10 := hS.size
              have lt9_10 := pz9.lt
              replace hS := bthen hS az
              (replace j1 := j1.call az); (replace pz9 := pz9.call az)
              refine hK.out _ _ hS (fun _ => ?_)
              clear hK K az
              generalize hgz : u1.heap.size = gz10 at hz10 pz10 ⊢ lt9_10
              clear hgz
              generalize u1.alloc (.cells #[.bool false, .slice none 0 0] 24) = u1z10 at *
              (try simp only [Act.put, List.setIfInBounds_toArray, List.set_cons_zero, List.set_cons_succ])
              refine wpAnyH_ready (rs := [10]) (by kernel_rfl) (by simp) ?_
              refine AllReadyH.cons (o := ⟨_, _, _, _, _, _⟩) rfl (fun K hK => ?_) AllReadyH.nil
              go_simp
              refine (make_mag s1 _ (r4.call hS) h4 h4' (by omega)).mono ?_
              rintro e u2 ⟨t2, B2, m2, e2, rfl, j2, d2⟩
              replace hS := bthen hS d2
              (replace j1 := j1.call d2); (replace pz9 := pz9.call d2); (replace pz10 := pz10.call d2)
              first | (with_reducible refine hK.out _ _ hS (fun _ => ?_)) | (go_wp2_with fail; with_reducible refine hK.out _ _ hS (fun _ => ?_))
              clear hK K
              (try simp only [Act.put, List.setIfInBounds_toArray, List.set_cons_zero, List.set_cons_succ])
              refine wpAnyH_ready (rs := [13]) (by kernel_rfl) (by simp) ?_
              refine AllReadyH.cons (o := ⟨_, _, _, _, _, _⟩) rfl (fun K hK => ?_) AllReadyH.nil
              obtain ⟨q0, q1, f0, f1, k0, k1⟩ := pz9.all (.bool t1) (.slice B1 m1 e1)
              go_simp
              replace hS := below_stored hS hz9 (.bool t1) (.slice B1 m1 e1)
              refine hK.out _ _ hS (fun _ => ?_)
              clear hK K q0 q1 f0 f1 k0 k1
              replace j1 := j1.stored pz9 (.bool t1) (.slice B1 m1 e1)
              replace j2 := j2.stored pz9 (.bool t1) (.slice B1 m1 e1)
              replace pz10 := pz10.far (g' := gz9) (by omega) (.bool t1) (.slice B1 m1 e1)
              replace pz9 := pz9.stored (s' := t1) (A' := B1) (n' := m1) (c' := e1)
              (try simp only [Act.put, List.setIfInBounds_toArray, List.set_cons_zero, List.set_cons_succ])
              refine wpAnyH_ready (rs := [14]) (by kernel_rfl) (by simp) ?_
              refine AllReadyH.cons (o := ⟨_, _, _, _, _, _⟩) rfl (fun K hK => ?_) AllReadyH.nil
              obtain ⟨q0, q1, f0, f1, k0, k1⟩ := pz10.all (.bool t2) (.slice B2 m2 e2)
              go_simp
              replace hS := below_stored hS hz10 (.bool t2) (.slice B2 m2 e2)
              refine hK.out _ _ hS (fun _ => ?_)
              clear hK K q0 q1 f0 f1 k0 k1
              replace j1 := j1.stored pz10 (.bool t2) (.slice B2 m2 e2)
              replace j2 := j2.stored pz10 (.bool t2) (.slice B2 m2 e2)
              replace pz9 := pz9.far (g' := gz10) (by omega) (.bool t2) (.slice B2 m2 e2)
              replace pz10 := pz10.stored (s' := t2) (A' := B2) (n' := m2) (c' := e2)
              (try simp only [Act.put, List.setIfInBounds_toArray, List.set_cons_zero, List.set_cons_succ])
              refine wpAnyH_done (by kernel_rfl) ?_ _
              go_wp2_with fail
              go_meet
              case rel => exact ⟨_, _, _, _, _, _, _, _, _, _, rfl, rfl, pz9, pz10, j1, j2, hS, hz9, hz10, by omega⟩
          · go_simp
            have pz10 := Pr.new u0z9 false none 0 0
            have az := bone u0z9 (.cells #[.bool false, .slice none 0 0] 24)
            have hz10 := hS.size
            have lt9_10 := pz9.lt
            replace hS := bthen hS az
            (replace pz9 := pz9.call az)
            refine hK.out _ _ hS (fun _ => ?_)
            clear hK K az
            generalize hgz : u0z9.heap.size = gz10 at hz10 pz10 ⊢ lt9_10
            clear hgz
            generalize u0z9.alloc (.cells #[.bool false, .slice none 0 0] 24) = u0z9z10 at *
            (try simp only [Act.put, List.setIfInBounds_toArray, List.set_cons_zero, List.set_cons_succ])
            refine wpAnyH_ready (rs := [6]) (by kernel_rfl) (by simp) ?_
            refine AllReadyH.cons (o := ⟨_, _, _, _, _, _⟩) rfl (fun K hK => ?_) AllReadyH.nil
            go_simp
            refine (make_mag (!(s1 == s2)) _ (r3.call hS) h3 h3' (by omega)).mono ?_
            rintro e u1 ⟨t1, B1, m1, e1, rfl, j1, d1⟩
            replace hS := bthen hS d1
            (replace pz9 := pz9.call d1); (replace pz10 := pz10.call d1)
            first | (with_reducible refine hK.out _ _ hS (fun _ => ?_)) | (go_wp2_with fail; with_reducible refine hK.out _ _ hS (fun _ => ?_))
            clear hK K
            (try simp only [Act.put, List.setIfInBounds_toArray, List.set_cons_zero, List.set_cons_succ])
            refine wpAnyH_ready (rs := [10]) (by kernel_rfl) (by simp) ?_
            refine AllReadyH.cons (o := ⟨_, _, _, _, _, _⟩) rfl (fun K hK => ?_) AllReadyH.nil
            go_simp
            refine (make_mag s1 _ (r4.call hS) h4 h4' (by omega)).mono ?_
            rintro e u2 ⟨t2, B2, m2, e2, rfl, j2, d2⟩
            replace hS := bthen hS d2
            (replace j1 := j1.call d2); (replace pz9 := pz9.call d2); (replace pz10 := pz10.call d2)
            first | (with_reducible refine hK.out _ _ hS (fun _ => ?_)) | (go_wp2_with fail; with_reducible refine hK.out _ _ hS (fun _ => ?_))
            clear hK K
            (try simp only [Act.put, List.setIfInBounds_toArray, List.set_cons_zero, List.set_cons_succ])
            refine wpAnyH_ready (rs := [13]) (by kernel_rfl) (by simp) ?_
            refine AllReadyH.cons (o := ⟨_, _, _, _, _, _⟩) rfl (fun K hK => ?_) AllReadyH.nil
            obtain ⟨q0, q1, f0, f1, k0, k1⟩ := pz9.all (.bool t1) (.slice B1 m1 e1)
            go_simp
            replace hS := below_stored hS hz9 (.bool t1) (.slice B1 m1 e1)
            refine hK.out _ _ hS (fun _ => ?_)
            clear hK K q0 q1 f0 f1 k0 k1
            replace j1 := j1.stored pz9 (.bool t1) (.slice B1 m1 e1)
            replace j2 := j2.stored pz9 (.bool t1) (.slice B1 m1 e1)
            replace pz10 := pz10.far (g' := gz9) (by omega) (.bool t1) (.slice B1 m1 e1)
            replace pz9 := pz9.stored (s' := t1) (A' := B1) (n' := m1) (c' := e1)
            (try simp only [Act.put, List.setIfInBounds_toArray, List.set_cons_zero, List.set_cons_succ])
            refine wpAnyH_ready (rs := [14]) (by kernel_rfl) (by simp) ?_
            refine AllReadyH.cons (o := ⟨_, _, _, _, _, _⟩) rfl (fun K hK => ?_) AllReadyH.nil
            obtain ⟨q0, q1, f0, f1, k0, k1⟩ := pz10.all (.bool t2) (.slice B2 m2 e2)
            go_simp
            replace hS := below_stored hS hz10 (.bool t2) (.slice B2 m2 e2)
            refine hK.out _ _ hS (fun _ => ?_)
            clear hK K q0 q1 f0 f1 k0 k1
            replace j1 := j1.stored pz10 (.bool t2) (.slice B2 m2 e2)
            replace j2 := j2.stored pz10 (.bool t2) (.slice B2 m2 e2)
            replace pz9 := pz9.far (g' := gz10) (by omega) (.bool t2) (.slice B2 m2 e2)
            replace pz10 := pz10.stored (s' := t2) (A' := B2) (n' := m2) (c' := e2)
            (try simp only [Act.put, List.setIfInBounds_toArray, List.set_cons_zero, List.set_cons_succ])
            refine wpAnyH_done (by kernel_rfl) ?_ _
            go_wp2_with fail
            go_meet
            case rel => exact ⟨_, _, _, _, _, _, _, _, _, _, rfl, rfl, pz9, pz10, j1, j2, hS, hz9, hz10, by omega⟩
        · go_simp
          have pz10 := Pr.new u0 false none 0 0
          have az := bone u0 (.cells #[.bool false, .slice none 0 0] 24)
          have hz10 := hS.size
          replace hS := bthen hS az
          refine hK.out _ _ hS (fun _ => ?_)
          clear hK K az
          generalize hgz : u0.heap.size = gz10 at hz10 pz10 ⊢
          clear hgz
          generalize u0.alloc (.cells #[.bool false, .slice none 0 0] 24) = u0z10 at *
          (try simp only [Act.put, List.setIfInBounds_toArray, List.set_cons_zero, List.set_cons_succ])
          refine wpAnyH_ready (rs := [6, 11]) (by kernel_rfl) (by simp) ?_
          refine AllReadyH.cons (o := ⟨_, _, _, _, _, _⟩) rfl (fun K hK => ?_) (AllReadyH.cons (o := ⟨_, _, _, _, _, _⟩) rfl (fun K hK => ?_) AllReadyH.nil)
          · go_simp
            refine (make_mag (!(s1 == s2)) _ (r3.call hS) h3 h3' (by omega)).mono ?_
            rintro e u1 ⟨t1, B1, m1, e1, rfl, j1, d1⟩
            replace hS := bthen hS d1
            (replace pz10 := pz10.call d1)
            first | (with_reducible refine hK.out _ _ hS (fun _ => ?_)) | (go_wp2_with fail; with_reducible refine hK.out _ _ hS (fun _ => ?_))
            clear hK K
            (try simp only [Act.put, List.setIfInBounds_toArray, List.set_cons_zero, List.set_cons_succ])
            refine wpAnyH_ready (rs := [10, 11]) (by kernel_rfl) (by simp) ?_
            refine AllReadyH.cons (o := ⟨_, _, _, _, _, _⟩) rfl (fun K hK => ?_) (AllReadyH.cons (o := ⟨_, _, _, _, _, _⟩) rfl (fun K hK => ?_) AllReadyH.nil)
            · go_simp
              refine (make_mag s1 _ (r4.call hS) h4 h4' (by omega)).mono ?_
              rintro e u2 ⟨t2, B2, m2, e2, rfl, j2, d2⟩
              replace hS := bthen hS d2
              (replace j1 := j1.call d2); (replace pz10 := pz10.call d2)
              first | (with_reducible refine hK.out _ _ hS (fun _ => ?_)) | (go_wp2_with fail; with_reducible refine hK.out _ _ hS (fun _ => ?_))
              clear hK K
              (try simp only [Act.put, List.setIfInBounds_toArray, List.set_cons_zero, List.set_cons_succ])
              refine wpAnyH_ready (rs := [11]) (by kernel_rfl) (by simp) ?_
              refine AllReadyH.cons (o := ⟨_, _, _, _, _, _⟩) rfl (fun K hK => ?_) AllReadyH.nil
              go_simp
              have pz9 := Pr.new u2 false none 0 0
              have az := bone u2 (.cells #[.bool false, .slice none 0 0] 24)
              have hz9 := hS.size
              have lt10_9 := pz10.lt
              replace hS := bthen hS az
              (replace j1 := j1.call az); (replace j2 := j2.call az); (replace pz10 := pz10.call az)
              refine hK.out _ _ hS (fun _ => ?_)
              clear hK K az
              generalize hgz : u2.heap.size = gz9 at hz9 pz9 ⊢ lt10_9
              clear hgz
              generalize u2.alloc (.cells #[.bool false, .slice none 0 0] 24) = u2z9 at *
              (try simp only [Act.put, List.setIfInBounds_toArray, List.set_cons_zero, List.set_cons_succ])
              refine wpAnyH_ready (rs := [13]) (by kernel_rfl) (by simp) ?_
              refine AllReadyH.cons (o := ⟨_, _, _, _, _, _⟩) rfl (fun K hK => ?_) AllReadyH.nil
              obtain ⟨q0, q1, f0, f1, k0, k1⟩ := pz9.all (.bool t1) (.slice B1 m1 e1)
              go_simp
              replace hS := below_stored hS hz9 (.bool t1) (.slice B1 m1 e1)
              refine hK.out _ _ hS (fun _ => ?_)
              clear hK K q0 q1 f0 f1 k0 k1
              replace j1 := j1.stored pz9 (.bool t1) (.slice B1 m1 e1)
              replace j2 := j2.stored pz9 (.bool t1) (.slice B1 m1 e1)
              replace pz10 := pz10.far (g' := gz9) (by omega) (.bool t1) (.slice B1 m1 e1)
              replace pz9 := pz9.stored (s' := t1) (A' := B1) (n' := m1) (c' := e1)
              (try simp only [Act.put, List.setIfInBounds_toArray, List.set_cons_zero, List.set_cons_succ])
              refine wpAnyH_ready (rs := [14]) (by kernel_rfl) (by simp) ?_
              refine AllReadyH.cons (o := ⟨_, _, _, _, _, _⟩) rfl (fun K hK => ?_) AllReadyH.nil
              obtain ⟨q0, q1, f0, f1, k0, k1⟩ := pz10.all (.bool t2) (.slice B2 m2 e2)
              go_simp
              replace hS := below_stored hS hz10 (.bool t2) (.slice B2 m2 e2)
              refine hK.out _ _ hS (fun _ => ?_)
              clear hK K q0 q1 f0 f1 k0 k1
              replace j1 := j1.stored pz10 (.bool t2) (.slice B2 m2 e2)
              replace j2 := j2.stored pz10 (.bool t2) (.slice B2 m2 e2)
              replace pz9 := pz9.far (g' := gz10) (by omega) (.bool t2) (.slice B2 m2 e2)
              replace pz10 := pz10.stored (s' := t2) (A' := B2) (n' := m2) (c' := e2)
              (try simp only [Act.put, List.setIfInBounds_toArray, List.set_cons_zero, List.set_cons_succ])
              refine wpAnyH_done (by kernel_rfl) ?_ _
              go_wp2_with fail
              go_meet
              case rel => exact ⟨_, _, _, _, _, _, _, _, _, _, rfl, rfl, pz9, pz10, j1, j2, hS, hz9, hz10, by omega⟩
            · go_simp
              have pz9 := Pr.new u1 false none 0 0
              have az := bone u1 (.cells #[.bool false, .slice none 0 0] 24)
              have hz9 := hS.size
              have lt10_9 := pz10.lt
              replace hS := bthen hS az
              (replace j1 := j1.call az); (replace pz10 := pz10.call az)
              refine hK.out _ _ hS (fun _ => ?_)
              clear hK K az
              generalize hgz : u1.heap.size = gz9 at hz9 pz9 ⊢ lt10_9
              clear hgz
              generalize u1.alloc (.cells #[.bool false, .slice none 0 0] 24) = u1z9 at *
              (try simp only [Act.put, List.setIfInBounds_toArray, List.set_cons_zero, List.set_cons_succ])
              refine wpAnyH_ready (rs := [10]) (by kernel_rfl) (by simp) ?_
              refine AllReadyH.cons (o := ⟨_, _, _, _, _, _⟩) rfl (fun K hK => ?_) AllReadyH.nil
              go_simp
              refine (make_mag s1 _ (r4.call hS) h4 h4' (by omega)).mono ?_
              rintro e u2 ⟨t2, B2, m2, e2, rfl, j2, d2⟩
              replace hS := bthen hS d2
              (replace j1 := j1.call d2); (replace pz10 := pz10.call d2); (replace pz9 := pz9.call d2)
              first | (with_reducible refine hK.out _ _ hS (fun _ => ?_)) | (go_wp2_with fail; with_reducible refine hK.out _ _ hS (fun _ => ?_))
              clear hK K
              (try simp only [Act.put, List.setIfInBounds_toArray, List.set_cons_zero, List.set_cons_succ])
              refine wpAnyH_ready (rs := [13]) (by kernel_rfl) (by simp) ?_
              refine AllReadyH.cons (o := ⟨_, _, _, _, _, _⟩) rfl (fun K hK => ?_) AllReadyH.nil
              obtain ⟨q0, q1, f0, f1, k0, k1⟩ := pz9.all (.bool t1) (.slice B1 m1 e1)
              go_simp
              replace hS := below_stored hS hz9 (.bool t1) (.slice B1 m1 e1)
              refine hK.out _ _ hS (fun _ => ?_)
              clear hK K q0 q1 f0 f1 k0 k1
              replace j1 := j1.stored pz9 (.bool t1) (.slice B1 m1 e1)
              replace j2 := j2.stored pz9 (.bool t1) (.slice B1 m1 e1)
              replace pz10 := pz10.far (g' := gz9) (by omega) (.bool t1) (.slice B1 m1 e1)
              replace pz9 := pz9.stored (s' := t1) (A' := B1) (n' := m1) (c' := e1)
              (try simp only [Act.put, List.setIfInBounds_toArray, List.set_cons_zero, List.set_cons_succ])
              refine wpAnyH_ready (rs := [14]) (by kernel_rfl) (by simp) ?_
              refine AllReadyH.cons (o := ⟨_, _, _, _, _, _⟩) rfl (fun K hK => ?_) AllReadyH.nil
              obtain ⟨q0, q1, f0, f1, k0, k1⟩ := pz10.all (.bool t2) (.slice B2 m2 e2)
              go_simp
              replace hS := below_stored hS hz10 (.bool t2) (.slice B2 m2 e2)
              refine hK.out _ _ hS (fun _ => ?_)
              clear hK K q0 q1 f0 f1 k0 k1
              replace j1 := j1.stored pz10 (.bool t2) (.slice B2 m2 e2)
              replace j2 := j2.stored pz10 (.bool t2) (.slice B2 m2 e2)
              replace pz9 := pz9.far (g' := gz10) (by omega) (.bool t2) (.slice B2 m2 e2)
              replace pz10 := pz10.stored (s' := t2) (A' := B2) (n' := m2) (c' := e2)
              (try simp only [Act.put, List.setIfInBounds_toArray, List.set_cons_zero, List.set_cons_succ])
              refine wpAnyH_done (by kernel_rfl) ?_ _
              go_wp2_with fail
              go_meet
              case rel => exact ⟨_, _, _, _, _, _, _, _, _, _, rfl, rfl, pz9, pz10, j1, j2, hS, hz9, hz10, by omega⟩
          · go_simp
            have pz9 := Pr.new u0z10 false none 0 0
            have az := bone u0z10 (.cells #[.bool false, .slice none 0 0] 24)
            have hz9 := hS.size
            have lt10_9 := pz10.lt
            replace hS := bthen hS az
            (replace pz10 := pz10.call az)
            refine hK.out _ _ hS (fun _ => ?_)
            clear hK K az
            generalize hgz : u0z10.heap.size = gz9 at hz9 pz9 ⊢ lt10_9
            clear hgz
            generalize u0z10.alloc (.cells #[.bool false, .slice none 0 0] 24) = u0z10z9 at *
            (try simp only [Act.put, List.setIfInBounds_toArray, List.set_cons_zero, List.set_cons_succ])
            refine wpAnyH_ready (rs := [6]) (by kernel_rfl) (by simp) ?_
            refine AllReadyH.cons (o := ⟨_, _, _, _, _, _⟩) rfl (fun K hK => ?_) AllReadyH.nil
            go_simp
            refine (make_mag (!(s1 == s2)) _ (r3.call hS) h3 h3' (by omega)).mono ?_
            rintro e u1 ⟨t1, B1, m1, e1, rfl, j1, d1⟩
            replace hS := bthen hS d1
            (replace pz10 := pz10.call d1); (replace pz9 := pz9.call d1)
            first | (with_reducible refine hK.out _ _ hS (fun _ => ?_)) | (go_wp2_with fail; with_reducible refine hK.out _ _ hS (fun _ => ?_))
            clear hK K
            (try simp only [Act.put, List.setIfInBounds_toArray, List.set_cons_zero, List.set_cons_succ])
            refine wpAnyH_ready (rs := [10]) (by kernel_rfl) (by simp) ?_
            refine AllReadyH.cons (o := ⟨_, _, _, _, _, _⟩) rfl (fun K hK => ?_) AllReadyH.nil
            go_simp
            refine (make_mag s1 _ (r4.call hS) h4 h4' (by omega)).mono ?_
            rintro e u2 ⟨t2, B2, m2, e2, rfl, j2, d2⟩
            replace hS := bthen hS d2
            (replace j1 := j1.call d2); (replace pz10 := pz10.call d2); (replace pz9 := pz9.call d2)
            first | (with_reducible refine hK.out _ _ hS (fun _ => ?_)) | (go_wp2_with fail; with_reducible refine hK.out _ _ hS (fun _ => ?_))
            clear hK K
            (try simp only [Act.put, List.setIfInBounds_toArray, List.set_cons_zero, List.set_cons_succ])
            refine wpAnyH_ready (rs := [13]) (by kernel_rfl) (by simp) ?_
            refine AllReadyH.cons (o := ⟨_, _, _, _, _, _⟩) rfl (fun K hK => ?_) AllReadyH.nil
            obtain ⟨q0, q1, f0, f1, k0, k1⟩ := pz9.all (.bool t1) (.slice B1 m1 e1)
            go_simp
            replace hS := below_stored hS hz9 (.bool t1) (.slice B1 m1 e1)
            refine hK.out _ _ hS (fun _ => ?_)
            clear hK K q0 q1 f0 f1 k0 k1
            replace j1 := j1.stored pz9 (.bool t1) (.slice B1 m1 e1)
            replace j2 := j2.stored pz9 (.bool t1) (.slice B1 m1 e1)
            replace pz10 := pz10.far (g' := gz9) (by omega) (.bool t1) (.slice B1 m1 e1)
            replace pz9 := pz9.stored (s' := t1) (A' := B1) (n' := m1) (c' := e1)
            (try simp only [Act.put, List.setIfInBounds_toArray, List.set_cons_zero, List.set_cons_succ])
            refine wpAnyH_ready (rs := [14]) (by kernel_rfl) (by simp) ?_
            refine AllReadyH.cons (o := ⟨_, _, _, _, _, _⟩) rfl (fun K hK => ?_) AllReadyH.nil
            obtain ⟨q0, q1, f0, f1, k0, k1⟩ := pz10.all (.bool t2) (.slice B2 m2 e2)
            go_simp
            replace hS := below_stored hS hz10 (.bool t2) (.slice B2 m2 e2)
            refine hK.out _ _ hS (fun _ => ?_)
            clear hK K q0 q1 f0 f1 k0 k1
            replace j1 := j1.stored pz10 (.bool t2) (.slice B2 m2 e2)
            replace j2 := j2.stored pz10 (.bool t2) (.slice B2 m2 e2)
            replace pz9 := pz9.far (g' := gz10) (by omega) (.bool t2) (.slice B2 m2 e2)
            replace pz10 := pz10.stored (s' := t2) (A' := B2) (n' := m2) (c' := e2)
            (try simp only [Act.put, List.setIfInBounds_toArray, List.set_cons_zero, List.set_cons_succ])
            refine wpAnyH_done (by kernel_rfl) ?_ _
            go_wp2_with fail
            go_meet
            case rel => exact ⟨_, _, _, _, _, _, _, _, _, _, rfl, rfl, pz9, pz10, j1, j2, hS, hz9, hz10, by omega⟩
      case rest =>
        obtain ⟨g9, s9, A9, n9, c9, g10, s10, A10, n10, c10, rfl, rfl, p9, p10, i9, i10, d2, hg9, hg10, hgne⟩ := hcut
        obtain ⟨X2, rfl⟩ : ∃ X : World, X = wc := ⟨_, rfl⟩
        have sz := p5.lt
        (replace p1 := p1.call d2); (replace p2 := p2.call d2); (replace p4 := p4.call d2); (replace p5 := p5.call d2); (replace i1 := i1.call d2); (replace i2 := i2.call d2)
        replace b := bthen b d2
        have k10 : n10 = 0 ↔ rv = 0 := by rw [← i10.1.len, digits_nil_iff, sgn_natAbs]
        have l9 : n9 ≤ n1 := by rw [← i9.1.len, sgn_natAbs]; exact lq
        have l10 : n10 ≤ n2 := by rw [← i10.1.len, sgn_natAbs]; exact lr
        have LQ : Lim 1073741824 (sgn (!(s1 == s2)) qv) := (i9.any.lim).mono (by omega)
        clear d2 r3 r4
        by_cases hadj : 0 < n10 ∧ s1 ≠ s2
        · have hst : (s1 == s2) = false := by simp; exact hadj.2
          have hn10 := hadj.1
          have hgt : decide (0 < (n10 : Int)) = true := by simp; omega
          obtain ⟨FQ, FR⟩ := F1.out (by rcases Nat.eq_zero_or_pos rv with h | h; have := k10.2 h; omega; exact h) hadj.2
          have FQ := Lib.hid FQ
          have FR := Lib.hid FR
          have HI := Lib.hid (fun W => refFromInt64_any 1 W (by omega) (by omega))
          clear hadj k10 F1 F2
          obtain ⟨a0, a1, b0, b1⟩ := p1.cells p2
          obtain ⟨x0, x1⟩ := p10.cells1
          have hW := b
          go_upto_region 7 with (fail)
          clear a0 a1 b0 b1 x0 x1
          go_cut [] (fun wz => ∃ s9 A9 n9 c9 s10 A10 n10 c10, Pr wz g9 s9 A9 n9 c9 ∧ Pr wz g10 s10 A10 n10 c10 ∧ CInt wz s9 A9 n9 c9 (x.fdiv y) ∧ CInt wz s10 A10 n10 c10 (x.fmod y) ∧ Pr wz (w.heap.size + 1 + 1) false none 0 0 ∧ Pr wz (w.heap.size + 1 + 1 + 1) false none 0 0 ∧ Below w.heap.size w wz)
          case first =>
            refine wp_region_late (S := fun w' => Below X2.heap.size X2 w') (late := fun k => k == 6 || k == 7) (by kernel_rfl) ?_
            have hS : Below X2.heap.size X2 X2.drew := bdrew X2
            generalize X2.drew = u0 at hS ⊢
            refine wpAnyL_take (i := 0) (oi := ⟨_, _, _, _, _, _⟩) (v := ?_) (by intro k hk; simp at hk; simp; omega) rfl (by kernel_rfl) (by kernel_rfl) (by kernel_rfl) (by kernel_rfl) (fun _ _ _ h => h) (Or.inl ⟨by rfl, ?_⟩) hS ?_
            rotate_left
            · intro w' hS'; have p' := p9.call hS'; have c0 := p'.cell0; have c1 := p'.cell1; (first | (go_simp; done) | (go_simp; with_reducible rfl) | with_reducible rfl)
            (try simp only [Act.put, List.setIfInBounds_toArray, List.set_cons_zero, List.set_cons_succ])
            refine wpAnyL_take (i := 3) (oi := ⟨_, _, _, _, _, _⟩) (v := ?_) (by intro k hk; simp at hk; simp; omega) rfl (by kernel_rfl) (by kernel_rfl) (by kernel_rfl) (by kernel_rfl) (fun _ _ _ h => h) (Or.inl ⟨by rfl, ?_⟩) hS ?_
            rotate_left
            · intro w' hS'; have p' := p10.call hS'; have c0 := p'.cell0; have c1 := p'.cell1; (first | (go_simp; done) | (go_simp; with_reducible rfl) | with_reducible rfl)
            (try simp only [Act.put, List.setIfInBounds_toArray, List.set_cons_zero, List.set_cons_succ])
            refine wpAnyL_take (i := 4) (oi := ⟨_, _, _, _, _, _⟩) (v := ?_) (by intro k hk; simp at hk; simp; omega) rfl (by kernel_rfl) (by kernel_rfl) (by kernel_rfl) (by kernel_rfl) (fun _ _ _ h => h) (Or.inl ⟨by rfl, ?_⟩) hS ?_
            rotate_left
            · intro w' hS'; have p' := p2.call hS'; have c0 := p'.cell0; have c1 := p'.cell1; (first | (go_simp; done) | (go_simp; with_reducible rfl) | with_reducible rfl)
            (try simp only [Act.put, List.setIfInBounds_toArray, List.set_cons_zero, List.set_cons_succ])
            refine wpAnyL_ready (rs := [1]) (by kernel_rfl) (by simp) ?_
            refine AllReadyL.cons (o := ⟨_, _, _, _, _, _⟩) rfl (fun K hK => ?_) AllReadyL.nil
            go_simp
            refine (HI.out _).mono ?_
            rintro e u1 ⟨t1, B1, m1, e1, rfl, j1, d1⟩
            replace hS := bthen hS d1
            first | (with_reducible refine hK.out _ _ (SL.of hS) ?_) | (go_wp2_with fail; with_reducible refine hK.out _ _ (SL.of hS) ?_)
            clear hK K
            have y1 := j1.len (k := 1) (show Lim 1 1 by unfold Lim; decide)
            (try simp only [Act.put, List.setIfInBounds_toArray, List.set_cons_zero, List.set_cons_succ])
            refine wpAnyL_ready (rs := [2]) (by kernel_rfl) (by simp) ?_
            refine AllReadyL.cons (o := ⟨_, _, _, _, _, _⟩) rfl (fun K hK => ?_) AllReadyL.nil
            go_simp
            refine (refSub_any _ (i9.call hS).any j1.any (by omega) (by omega)).mono ?_
            rintro e u2 ⟨t2, B2, m2, e2, rfl, j2, d2⟩
            replace hS := bthen hS d2
            (replace j1 := j1.call d2)
            first | (with_reducible refine hK.out _ _ (SL.of hS) ?_) | (go_wp2_with fail; with_reducible refine hK.out _ _ (SL.of hS) ?_)
            clear hK K
            rw [FQ.out] at j2
            (try simp only [Act.put, List.setIfInBounds_toArray, List.set_cons_zero, List.set_cons_succ])
            refine wpAnyL_ready (rs := [5]) (by kernel_rfl) (by simp) ?_
            refine AllReadyL.cons (o := ⟨_, _, _, _, _, _⟩) rfl (fun K hK => ?_) AllReadyL.nil
            go_simp
            refine (refAdd_any _ (i10.call hS).any (i2.call hS).any (by omega) (by omega)).mono ?_
            rintro e u3 ⟨t3, B3, m3, e3, rfl, j3, d3⟩
            replace hS := bthen hS d3
            (replace j1 := j1.call d3); (replace j2 := j2.call d3)
            first | (with_reducible refine hK.out _ _ (SL.of hS) ?_) | (go_wp2_with fail; with_reducible refine hK.out _ _ (SL.of hS) ?_)
            clear hK K
            rw [FR.out] at j3
            (try simp only [Act.put, List.setIfInBounds_toArray, List.set_cons_zero, List.set_cons_succ])
            refine wpAnyL_ready (rs := [6]) (by kernel_rfl) (by simp) ?_
            refine AllReadyL.cons (o := ⟨_, _, _, _, _, _⟩) rfl (fun K hK => ?_) AllReadyL.nil
            replace hW := bthen hW hS
            (replace p9 := p9.call hS); (replace p10 := p10.call hS); (replace p2 := p2.call hS); (replace p4 := p4.call hS); (replace p5 := p5.call hS)
            clear hS
            obtain ⟨q0, q1, f0, f1, k0, k1⟩ := p9.all (.bool t2) (.slice B2 m2 e2)
            go_simp
            refine hK.out _ _ (SL.done rfl) ?_
            clear hK K q0 q1 f0 f1 k0 k1
            replace hW := below_stored hW (g := g9) (by omega) (.bool t2) (.slice B2 m2 e2)
            replace j1 := j1.stored p9 (.bool t2) (.slice B2 m2 e2)
            replace j2 := j2.stored p9 (.bool t2) (.slice B2 m2 e2)
            replace j3 := j3.stored p9 (.bool t2) (.slice B2 m2 e2)
            replace p10 := p10.far (g' := g9) (by omega) (.bool t2) (.slice B2 m2 e2)
            replace p2 := p2.far (g' := g9) (by omega) (.bool t2) (.slice B2 m2 e2)
            replace p4 := p4.far (g' := g9) (by omega) (.bool t2) (.slice B2 m2 e2)
            replace p5 := p5.far (g' := g9) (by omega) (.bool t2) (.slice B2 m2 e2)
            replace p9 := p9.stored (s' := t2) (A' := B2) (n' := m2) (c' := e2)
            generalize (u3.setCell ⟨g9, 0, none⟩ (.bool t2)).setCell ⟨g9, 1, none⟩ (.slice B2 m2 e2) = su39 at *
            (try simp only [Act.put, List.setIfInBounds_toArray, List.set_cons_zero, List.set_cons_succ])
            refine wpAnyL_ready (rs := [7]) (by kernel_rfl) (by simp) ?_
            refine AllReadyL.cons (o := ⟨_, _, _, _, _, _⟩) rfl (fun K hK => ?_) AllReadyL.nil
            obtain ⟨q0, q1, f0, f1, k0, k1⟩ := p10.all (.bool t3) (.slice B3 m3 e3)
            go_simp
            refine hK.out _ _ (SL.done rfl) ?_
            clear hK K q0 q1 f0 f1 k0 k1
            replace hW := below_stored hW (g := g10) (by omega) (.bool t3) (.slice B3 m3 e3)
            replace j1 := j1.stored p10 (.bool t3) (.slice B3 m3 e3)
            replace j2 := j2.stored p10 (.bool t3) (.slice B3 m3 e3)
            replace j3 := j3.stored p10 (.bool t3) (.slice B3 m3 e3)
            replace p9 := p9.far (g' := g10) (by omega) (.bool t3) (.slice B3 m3 e3)
            replace p2 := p2.far (g' := g10) (by omega) (.bool t3) (.slice B3 m3 e3)
            replace p4 := p4.far (g' := g10) (by omega) (.bool t3) (.slice B3 m3 e3)
            replace p5 := p5.far (g' := g10) (by omega) (.bool t3) (.slice B3 m3 e3)
            replace p10 := p10.stored (s' := t3) (A' := B3) (n' := m3) (c' := e3)
            generalize (su39.setCell ⟨g10, 0, none⟩ (.bool t3)).setCell ⟨g10, 1, none⟩ (.slice B3 m3 e3) = ssu3910 at *
            (try simp only [Act.put, List.setIfInBounds_toArray, List.set_cons_zero, List.set_cons_succ])
            refine wpAnyL_done (by kernel_rfl) ?_ _
            go_wp2_with fail
            go_meet
            case rel => exact ⟨_, _, _, _, _, _, _, _, p9, p10, j2, j3, p4, p5, hW⟩
          case rest =>
            clear p9 p10 i9 i10 p4 p5 hW b l9 l10 hn10 hgt FQ FR
            obtain ⟨s9, A9, n9, c9, s10, A10, n10, c10, p9, p10, i9, i10, p4, p5, hW⟩ := hcut
            obtain ⟨X3, rfl⟩ : ∃ X : World, X = wc := ⟨_, rfl⟩
            obtain ⟨zq, hzq⟩ : ∃ zq, zq = x.fdiv y := ⟨_, rfl⟩
            obtain ⟨zr, hzr⟩ : ∃ zr, zr = x.fmod y := ⟨_, rfl⟩
            rw [← hzq] at i9
            rw [← hzr] at i10
            have FQ := Lib.hid hzq
            have FR := Lib.hid hzr
            clear hzq hzr
            go_wp2_with fail
            have d0 := bdrew X3
            (replace i9 := i9.call d0); (replace i10 := i10.call d0); (replace p9 := p9.call d0); (replace p10 := p10.call d0); (replace p4 := p4.call d0); (replace p5 := p5.call d0)
            replace hW := bthen hW d0
            clear d0
            refine wp_region_held_drew (S := fun w' => Below w.heap.size w w' ∧ Pr w' (g9) s9 A9 n9 c9 ∧ Pr w' (g10) s10 A10 n10 c10) (by kernel_rfl) ⟨hW, p9, p10⟩ (fun _ => ?_)
            generalize X3.drew = u0 at *
            refine wpAnyH_take (i := 0) (oi := ⟨_, _, _, _, _, _⟩) (v := ?_) rfl (by kernel_rfl) (by kernel_rfl) (by kernel_rfl) (fun _ _ _ h => h) (Or.inl ⟨by rfl, ?_⟩) ⟨hW, p9, p10⟩ ?_
            rotate_left
            · intro w' hS'; obtain ⟨_, q_p9, q_p10⟩ := hS'; have c0 := q_p9.cell0; have c1 := q_p9.cell1; (first | (go_simp; done) | (go_simp; with_reducible rfl) | with_reducible rfl)
            (try simp only [Act.put, List.setIfInBounds_toArray, List.set_cons_zero, List.set_cons_succ])
            refine wpAnyH_take (i := 1) (oi := ⟨_, _, _, _, _, _⟩) (v := ?_) rfl (by kernel_rfl) (by kernel_rfl) (by kernel_rfl) (fun _ _ _ h => h) (Or.inl ⟨by rfl, ?_⟩) ⟨hW, p9, p10⟩ ?_
            rotate_left
            · intro w' hS'; obtain ⟨_, q_p9, q_p10⟩ := hS'; have c0 := q_p10.cell0; have c1 := q_p10.cell1; (first | (go_simp; done) | (go_simp; with_reducible rfl) | with_reducible rfl)
            (try simp only [Act.put, List.setIfInBounds_toArray, List.set_cons_zero, List.set_cons_succ])
            refine wpAnyH_ready (rs := [2]) (by kernel_rfl) (by simp) ?_
            refine AllReadyH.cons (o := ⟨_, _, _, _, _, _⟩) rfl (fun K hK => ?_) AllReadyH.nil
            obtain ⟨q0, q1, f0, f1, k0, k1⟩ := p4.all (.bool s9) (.slice A9 n9 c9)
            go_simp
            clear q0 q1 f0 f1 k0 k1
            replace hW := below_stored hW (g := w.heap.size + 1 + 1) (by omega) (.bool s9) (.slice A9 n9 c9)
            replace i9 := i9.stored p4 (.bool s9) (.slice A9 n9 c9)
            replace i10 := i10.stored p4 (.bool s9) (.slice A9 n9 c9)
            replace p9 := p9.far (g' := w.heap.size + 1 + 1) (by omega) (.bool s9) (.slice A9 n9 c9)
            replace p10 := p10.far (g' := w.heap.size + 1 + 1) (by omega) (.bool s9) (.slice A9 n9 c9)
            replace p5 := p5.far (g' := w.heap.size + 1 + 1) (by omega) (.bool s9) (.slice A9 n9 c9)
            replace p4 := p4.stored (s' := s9) (A' := A9) (n' := n9) (c' := c9)
            generalize (u0.setCell ⟨w.heap.size + 1 + 1, 0, none⟩ (.bool s9)).setCell ⟨w.heap.size + 1 + 1, 1, none⟩ (.slice A9 n9 c9) = su04 at *
            refine hK.out _ _ ⟨hW, p9, p10⟩ (fun _ => ?_)
            clear hK K
            (try simp only [Act.put, List.setIfInBounds_toArray, List.set_cons_zero, List.set_cons_succ])
            refine wpAnyH_ready (rs := [3]) (by kernel_rfl) (by simp) ?_
            refine AllReadyH.cons (o := ⟨_, _, _, _, _, _⟩) rfl (fun K hK => ?_) AllReadyH.nil
            obtain ⟨q0, q1, f0, f1, k0, k1⟩ := p5.all (.bool s10) (.slice A10 n10 c10)
            go_simp
            clear q0 q1 f0 f1 k0 k1
            replace hW := below_stored hW (g := w.heap.size + 1 + 1 + 1) (by omega) (.bool s10) (.slice A10 n10 c10)
            replace i9 := i9.stored p5 (.bool s10) (.slice A10 n10 c10)
            replace i10 := i10.stored p5 (.bool s10) (.slice A10 n10 c10)
            replace p9 := p9.far (g' := w.heap.size + 1 + 1 + 1) (by omega) (.bool s10) (.slice A10 n10 c10)
            replace p10 := p10.far (g' := w.heap.size + 1 + 1 + 1) (by omega) (.bool s10) (.slice A10 n10 c10)
            replace p4 := p4.far (g' := w.heap.size + 1 + 1 + 1) (by omega) (.bool s10) (.slice A10 n10 c10)
            replace p5 := p5.stored (s' := s10) (A' := A10) (n' := n10) (c' := c10)
            generalize (su04.setCell ⟨w.heap.size + 1 + 1 + 1, 0, none⟩ (.bool s10)).setCell ⟨w.heap.size + 1 + 1 + 1, 1, none⟩ (.slice A10 n10 c10) = ssu045 at *
            refine hK.out _ _ ⟨hW, p9, p10⟩ (fun _ => ?_)
            clear hK K
            (try simp only [Act.put, List.setIfInBounds_toArray, List.set_cons_zero, List.set_cons_succ])
            refine wpAnyH_take (i := 4) (oi := ⟨_, _, _, _, _, _⟩) (v := ?_) rfl (by kernel_rfl) (by kernel_rfl) (by kernel_rfl) (fun _ _ _ h => h) (Or.inl ⟨by rfl, ?_⟩) ⟨hW, p9, p10⟩ ?_
            rotate_left
            · intro w' hS'; (first | (go_simp; done) | (go_simp; with_reducible rfl) | with_reducible rfl)
            (try simp only [Act.put, List.setIfInBounds_toArray, List.set_cons_zero, List.set_cons_succ])
            refine wpAnyH_done (by kernel_rfl) ?_ _
            go_wp2
            obtain ⟨v0, v1⟩ := p4.cells1
            obtain ⟨v2, v3⟩ := p5.cells1
            refine bodyPost_ret (v := .tuple #[.agg #[.bool s9, .slice A9 n9 c9], .agg #[.bool s10, .slice A10 n10 c10], .int .i64 0]) (by simp [results, Tryz.results82, go_sem, v0, v1, v2, v3]) rfl ?_
            exact ⟨_, _, _, _, _, _, _, _, _, rfl, by rw [← FQ.out]; exact i9, by rw [if_neg HTY.out, ← FR.out]; exact i10, by rw [if_neg HTY.out], hW⟩
        · obtain ⟨FQ, FR⟩ := F2.out (fun h => hadj ⟨by rcases Nat.eq_zero_or_pos n10 with h5 | h5; have := k10.1 h5; omega; exact h5, h.2⟩)
          have FQ := Lib.hid FQ
          have FR := Lib.hid FR
          have hW := b
          obtain ⟨X3, rfl⟩ : ∃ X : World, X = X2 := ⟨_, rfl⟩
          obtain ⟨a0, a1, b0, b1⟩ := p1.cells p2
          obtain ⟨x0, x1⟩ := p10.cells1
          clear F1 F2 k10
          by_cases hn10 : n10 = 0
          · subst hn10
            clear hadj
            go_wp2_with fail
            clear a0 a1 b0 b1 x0 x1
            have d0 := bdrew X3
            (replace i9 := i9.call d0); (replace i10 := i10.call d0); (replace p9 := p9.call d0); (replace p10 := p10.call d0); (replace p4 := p4.call d0); (replace p5 := p5.call d0)
            replace hW := bthen hW d0
            clear d0
            refine wp_region_held_drew (S := fun w' => Below w.heap.size w w' ∧ Pr w' (g9) s9 A9 n9 c9 ∧ Pr w' (g10) s10 A10 0 c10) (by kernel_rfl) ⟨hW, p9, p10⟩ (fun _ => ?_)
            generalize X3.drew = u0 at *
            refine wpAnyH_take (i := 0) (oi := ⟨_, _, _, _, _, _⟩) (v := ?_) rfl (by kernel_rfl) (by kernel_rfl) (by kernel_rfl) (fun _ _ _ h => h) (Or.inl ⟨by rfl, ?_⟩) ⟨hW, p9, p10⟩ ?_
            rotate_left
            · intro w' hS'; obtain ⟨_, q_p9, q_p10⟩ := hS'; have c0 := q_p9.cell0; have c1 := q_p9.cell1; (first | (go_simp; done) | (go_simp; with_reducible rfl) | with_reducible rfl)
            (try simp only [Act.put, List.setIfInBounds_toArray, List.set_cons_zero, List.set_cons_succ])
            refine wpAnyH_take (i := 1) (oi := ⟨_, _, _, _, _, _⟩) (v := ?_) rfl (by kernel_rfl) (by kernel_rfl) (by kernel_rfl) (fun _ _ _ h => h) (Or.inl ⟨by rfl, ?_⟩) ⟨hW, p9, p10⟩ ?_
            rotate_left
            · intro w' hS'; obtain ⟨_, q_p9, q_p10⟩ := hS'; have c0 := q_p10.cell0; have c1 := q_p10.cell1; (first | (go_simp; done) | (go_simp; with_reducible rfl) | with_reducible rfl)
            (try simp only [Act.put, List.setIfInBounds_toArray, List.set_cons_zero, List.set_cons_succ])
            refine wpAnyH_ready (rs := [2]) (by kernel_rfl) (by simp) ?_
            refine AllReadyH.cons (o := ⟨_, _, _, _, _, _⟩) rfl (fun K hK => ?_) AllReadyH.nil
            obtain ⟨q0, q1, f0, f1, k0, k1⟩ := p4.all (.bool s9) (.slice A9 n9 c9)
            go_simp
            clear q0 q1 f0 f1 k0 k1
            replace hW := below_stored hW (g := w.heap.size + 1 + 1) (by omega) (.bool s9) (.slice A9 n9 c9)
            replace i9 := i9.stored p4 (.bool s9) (.slice A9 n9 c9)
            replace i10 := i10.stored p4 (.bool s9) (.slice A9 n9 c9)
            replace p9 := p9.far (g' := w.heap.size + 1 + 1) (by omega) (.bool s9) (.slice A9 n9 c9)
            replace p10 := p10.far (g' := w.heap.size + 1 + 1) (by omega) (.bool s9) (.slice A9 n9 c9)
            replace p5 := p5.far (g' := w.heap.size + 1 + 1) (by omega) (.bool s9) (.slice A9 n9 c9)
            replace p4 := p4.stored (s' := s9) (A' := A9) (n' := n9) (c' := c9)
            generalize (u0.setCell ⟨w.heap.size + 1 + 1, 0, none⟩ (.bool s9)).setCell ⟨w.heap.size + 1 + 1, 1, none⟩ (.slice A9 n9 c9) = su04 at *
            refine hK.out _ _ ⟨hW, p9, p10⟩ (fun _ => ?_)
            clear hK K
            (try simp only [Act.put, List.setIfInBounds_toArray, List.set_cons_zero, List.set_cons_succ])
            refine wpAnyH_ready (rs := [3]) (by kernel_rfl) (by simp) ?_
            refine AllReadyH.cons (o := ⟨_, _, _, _, _, _⟩) rfl (fun K hK => ?_) AllReadyH.nil
            obtain ⟨q0, q1, f0, f1, k0, k1⟩ := p5.all (.bool s10) (.slice A10 0 c10)
            go_simp
            clear q0 q1 f0 f1 k0 k1
            replace hW := below_stored hW (g := w.heap.size + 1 + 1 + 1) (by omega) (.bool s10) (.slice A10 0 c10)
            replace i9 := i9.stored p5 (.bool s10) (.slice A10 0 c10)
            replace i10 := i10.stored p5 (.bool s10) (.slice A10 0 c10)
            replace p9 := p9.far (g' := w.heap.size + 1 + 1 + 1) (by omega) (.bool s10) (.slice A10 0 c10)
            replace p10 := p10.far (g' := w.heap.size + 1 + 1 + 1) (by omega) (.bool s10) (.slice A10 0 c10)
            replace p4 := p4.far (g' := w.heap.size + 1 + 1 + 1) (by omega) (.bool s10) (.slice A10 0 c10)
            replace p5 := p5.stored (s' := s10) (A' := A10) (n' := 0) (c' := c10)
            generalize (su04.setCell ⟨w.heap.size + 1 + 1 + 1, 0, none⟩ (.bool s10)).setCell ⟨w.heap.size + 1 + 1 + 1, 1, none⟩ (.slice A10 0 c10) = ssu045 at *
            refine hK.out _ _ ⟨hW, p9, p10⟩ (fun _ => ?_)
            clear hK K
            (try simp only [Act.put, List.setIfInBounds_toArray, List.set_cons_zero, List.set_cons_succ])
            refine wpAnyH_take (i := 4) (oi := ⟨_, _, _, _, _, _⟩) (v := ?_) rfl (by kernel_rfl) (by kernel_rfl) (by kernel_rfl) (fun _ _ _ h => h) (Or.inl ⟨by rfl, ?_⟩) ⟨hW, p9, p10⟩ ?_
            rotate_left
            · intro w' hS'; (first | (go_simp; done) | (go_simp; with_reducible rfl) | with_reducible rfl)
            (try simp only [Act.put, List.setIfInBounds_toArray, List.set_cons_zero, List.set_cons_succ])
            refine wpAnyH_done (by kernel_rfl) ?_ _
            go_wp2
            obtain ⟨v0, v1⟩ := p4.cells1
            obtain ⟨v2, v3⟩ := p5.cells1
            refine bodyPost_ret (v := .tuple #[.agg #[.bool s9, .slice A9 n9 c9], .agg #[.bool s10, .slice A10 0 c10], .int .i64 0]) (by simp [results, Tryz.results82, go_sem, v0, v1, v2, v3]) rfl ?_
            exact ⟨_, _, _, _, _, _, _, _, _, rfl, by rw [← FQ.out]; exact i9, by rw [if_neg HTY.out, ← FR.out]; exact i10, by rw [if_neg HTY.out], hW⟩
          · have hst : s1 = s2 := by by_cases e : s1 = s2; exact e; exact absurd ⟨by omega, e⟩ hadj
            subst hst
            have hgt : decide (0 < (n10 : Int)) = true := by simp; omega
            have hgn : 0 < n10 := by omega
            clear hadj
            go_wp2_with fail
            clear a0 a1 b0 b1 x0 x1
            have d0 := bdrew X3
            (replace i9 := i9.call d0); (replace i10 := i10.call d0); (replace p9 := p9.call d0); (replace p10 := p10.call d0); (replace p4 := p4.call d0); (replace p5 := p5.call d0)
            replace hW := bthen hW d0
            clear d0
            refine wp_region_held_drew (S := fun w' => Below w.heap.size w w' ∧ Pr w' (g9) s9 A9 n9 c9 ∧ Pr w' (g10) s10 A10 n10 c10) (by kernel_rfl) ⟨hW, p9, p10⟩ (fun _ => ?_)
            generalize X3.drew = u0 at *
            refine wpAnyH_take (i := 0) (oi := ⟨_, _, _, _, _, _⟩) (v := ?_) rfl (by kernel_rfl) (by kernel_rfl) (by kernel_rfl) (fun _ _ _ h => h) (Or.inl ⟨by rfl, ?_⟩) ⟨hW, p9, p10⟩ ?_
            rotate_left
            · intro w' hS'; obtain ⟨_, q_p9, q_p10⟩ := hS'; have c0 := q_p9.cell0; have c1 := q_p9.cell1; (first | (go_simp; done) | (go_simp; with_reducible rfl) | with_reducible rfl)
            (try simp only [Act.put, List.setIfInBounds_toArray, List.set_cons_zero, List.set_cons_succ])
            refine wpAnyH_take (i := 1) (oi := ⟨_, _, _, _, _, _⟩) (v := ?_) rfl (by kernel_rfl) (by kernel_rfl) (by kernel_rfl) (fun _ _ _ h => h) (Or.inl ⟨by rfl, ?_⟩) ⟨hW, p9, p10⟩ ?_
            rotate_left
            · intro w' hS'; obtain ⟨_, q_p9, q_p10⟩ := hS'; have c0 := q_p10.cell0; have c1 := q_p10.cell1; (first | (go_simp; done) | (go_simp; with_reducible rfl) | with_reducible rfl)
            (try simp only [Act.put, List.setIfInBounds_toArray, List.set_cons_zero, List.set_cons_succ])
            refine wpAnyH_ready (rs := [2]) (by kernel_rfl) (by simp) ?_
            refine AllReadyH.cons (o := ⟨_, _, _, _, _, _⟩) rfl (fun K hK => ?_) AllReadyH.nil
            obtain ⟨q0, q1, f0, f1, k0, k1⟩ := p4.all (.bool s9) (.slice A9 n9 c9)
            go_simp
            clear q0 q1 f0 f1 k0 k1
            replace hW := below_stored hW (g := w.heap.size + 1 + 1) (by omega) (.bool s9) (.slice A9 n9 c9)
            replace i9 := i9.stored p4 (.bool s9) (.slice A9 n9 c9)
            replace i10 := i10.stored p4 (.bool s9) (.slice A9 n9 c9)
            replace p9 := p9.far (g' := w.heap.size + 1 + 1) (by omega) (.bool s9) (.slice A9 n9 c9)
            replace p10 := p10.far (g' := w.heap.size + 1 + 1) (by omega) (.bool s9) (.slice A9 n9 c9)
            replace p5 := p5.far (g' := w.heap.size + 1 + 1) (by omega) (.bool s9) (.slice A9 n9 c9)
            replace p4 := p4.stored (s' := s9) (A' := A9) (n' := n9) (c' := c9)
            generalize (u0.setCell ⟨w.heap.size + 1 + 1, 0, none⟩ (.bool s9)).setCell ⟨w.heap.size + 1 + 1, 1, none⟩ (.slice A9 n9 c9) = su04 at *
            refine hK.out _ _ ⟨hW, p9, p10⟩ (fun _ => ?_)
            clear hK K
            (try simp only [Act.put, List.setIfInBounds_toArray, List.set_cons_zero, List.set_cons_succ])
            refine wpAnyH_ready (rs := [3]) (by kernel_rfl) (by simp) ?_
            refine AllReadyH.cons (o := ⟨_, _, _, _, _, _⟩) rfl (fun K hK => ?_) AllReadyH.nil
            obtain ⟨q0, q1, f0, f1, k0, k1⟩ := p5.all (.bool s10) (.slice A10 n10 c10)
            go_simp
            clear q0 q1 f0 f1 k0 k1
            replace hW := below_stored hW (g := w.heap.size + 1 + 1 + 1) (by omega) (.bool s10) (.slice A10 n10 c10)
            replace i9 := i9.stored p5 (.bool s10) (.slice A10 n10 c10)
            replace i10 := i10.stored p5 (.bool s10) (.slice A10 n10 c10)
            replace p9 := p9.far (g' := w.heap.size + 1 + 1 + 1) (by omega) (.bool s10) (.slice A10 n10 c10)
            replace p10 := p10.far (g' := w.heap.size + 1 + 1 + 1) (by omega) (.bool s10) (.slice A10 n10 c10)
            replace p4 := p4.far (g' := w.heap.size + 1 + 1 + 1) (by omega) (.bool s10) (.slice A10 n10 c10)
            replace p5 := p5.stored (s' := s10) (A' := A10) (n' := n10) (c' := c10)
            generalize (su04.setCell ⟨w.heap.size + 1 + 1 + 1, 0, none⟩ (.bool s10)).setCell ⟨w.heap.size + 1 + 1 + 1, 1, none⟩ (.slice A10 n10 c10) = ssu045 at *
            refine hK.out _ _ ⟨hW, p9, p10⟩ (fun _ => ?_)
            clear hK K
            (try simp only [Act.put, List.setIfInBounds_toArray, List.set_cons_zero, List.set_cons_succ])
            refine wpAnyH_take (i := 4) (oi := ⟨_, _, _, _, _, _⟩) (v := ?_) rfl (by kernel_rfl) (by kernel_rfl) (by kernel_rfl) (fun _ _ _ h => h) (Or.inl ⟨by rfl, ?_⟩) ⟨hW, p9, p10⟩ ?_
            rotate_left
            · intro w' hS'; (first | (go_simp; done) | (go_simp; with_reducible rfl) | with_reducible rfl)
            (try simp only [Act.put, List.setIfInBounds_toArray, List.set_cons_zero, List.set_cons_succ])
            refine wpAnyH_done (by kernel_rfl) ?_ _
            go_wp2
            obtain ⟨v0, v1⟩ := p4.cells1
            obtain ⟨v2, v3⟩ := p5.cells1
            refine bodyPost_ret (v := .tuple #[.agg #[.bool s9, .slice A9 n9 c9], .agg #[.bool s10, .slice A10 n10 c10], .int .i64 0]) (by simp [results, Tryz.results82, go_sem, v0, v1, v2, v3]) rfl ?_
            exact ⟨_, _, _, _, _, _, _, _, _, rfl, by rw [← FQ.out]; exact i9, by rw [if_neg HTY.out, ← FR.out]; exact i10, by rw [if_neg HTY.out], hW⟩
end Go.Proofs.YtociocengfjioaaGreatDoor
