/- Walk of GCD of the reference. -/
import Derived.Test.YtociocengfjioaaGreatDoorRefH
namespace Go.Proofs.YtociocengfjioaaGreatDoor
open Go.RowKit
set_option linter.unusedVariables false

theorem AInt.refTrim {w : World} {neg : Bool} {A : Option Addr} {n c : Nat} {z : Int} (h : AInt w neg A n c z) :
    Calls Tryz.prog 97 #[.slice A n c] w (RetTrimE w w.heap.size n c A z.natAbs) := by
  obtain ⟨ds, h1, h2, h3, h4, rfl⟩ := h
  rw [sgn_natAbs]
  exact refTrim_mag w h1 h2 h3 h4

set_option maxHeartbeats 2000000 in
set_option maxRecDepth 100000 in
theorem refGcd_any {s t : Bool} {A A' : Option Addr} {n n' c c' : Nat} {x y : Int} (w : World) (ha : AInt w s A n c x) (hb : AInt w t A' n' c' y) (hn : n ≤ 1073741824) (hn' : n' ≤ 1073741824) :
    Calls Tryz.prog 81 #[.agg #[.bool s, .slice A n c], .agg #[.bool t, .slice A' n' c']] w (RetInt w (Nat.gcd x.natAbs y.natAbs : Nat)) := by
  obtain ⟨W, hW, hS, pa, pb, pr⟩ := boxes2 w s t A A' n n' c c'
  replace ha := ha.call hS
  replace hb := hb.call hS
  obtain ⟨G, hG⟩ : ∃ G, Nat.gcd x.natAbs y.natAbs = G := ⟨_, rfl⟩
  rw [hG]
  have HG := Lib.hid hG
  clear hG
  go_enter Tryz.func81, Tryz.ntmps81
  go_wp2_with fail
  rw [← hW]
  clear hW
  go_upto_region 1 with (fail)
  go_cut [5, 6] (fun v v' wz => ∃ A1 n1 c1 A2 n2 c2 p q, v = .slice A1 n1 c1 ∧ v' = .slice A2 n2 c2 ∧ Hid (Rd .u32 wz wz.heap.size A1 n1 (digits p) ∧ Rd .u32 wz wz.heap.size A2 n2 (digits q) ∧ n1 ≤ c1 ∧ c1 ≤ 9223372036854775807 ∧ n2 ≤ c2 ∧ c2 ≤ 9223372036854775807 ∧ n1 ≤ 1073741824 ∧ n2 ≤ 1073741824 ∧ Nat.gcd p q = G ∧ Pr wz (w.heap.size + 1 + 1) false none 0 0 ∧ Below w.heap.size w wz))
  case first =>
    have d0 := bdrew W
    (replace ha := ha.call d0); (replace hb := hb.call d0); (replace pr := pr.call d0); (replace pa := pa.call d0); (replace pb := pb.call d0)
    replace hS := bthen hS d0
    clear d0
    refine wp_region_held_drew (S := fun w' => Below w.heap.size w w' ∧ Pr w' (w.heap.size) s A n c ∧ Pr w' (w.heap.size + 1) t A' n' c') (by kernel_rfl) ⟨hS, pa, pb⟩ (fun _ => ?_)
    generalize W.drew = u0 at *
    refine wpAnyH_take (i := 0) (oi := ⟨_, _, _, _, _, _⟩) (v := ?_) rfl (by kernel_rfl) (by kernel_rfl) (by kernel_rfl) (fun _ _ _ h => h) (Or.inl ⟨by rfl, ?_⟩) ⟨hS, pa, pb⟩ ?_
    rotate_left
    · intro w' hS'; (first | (go_simp; done) | (go_simp; with_reducible rfl) | with_reducible rfl)
    (try simp only [Act.put, List.setIfInBounds_toArray, List.set_cons_zero, List.set_cons_succ])
    refine wpAnyH_take (i := 1) (oi := ⟨_, _, _, _, _, _⟩) (v := ?_) rfl (by kernel_rfl) (by kernel_rfl) (by kernel_rfl) (fun _ _ _ h => h) (Or.inl ⟨by rfl, ?_⟩) ⟨hS, pa, pb⟩ ?_
    rotate_left
    · intro w' hS'; obtain ⟨_, q_pa, q_pb⟩ := hS'; have c0 := q_pa.cell0; have c1 := q_pa.cell1; (first | (go_simp; done) | (go_simp; with_reducible rfl) | with_reducible rfl)
    (try simp only [Act.put, List.setIfInBounds_toArray, List.set_cons_zero, List.set_cons_succ])
    refine wpAnyH_take (i := 4) (oi := ⟨_, _, _, _, _, _⟩) (v := ?_) rfl (by kernel_rfl) (by kernel_rfl) (by kernel_rfl) (fun _ _ _ h => h) (Or.inl ⟨by rfl, ?_⟩) ⟨hS, pa, pb⟩ ?_
    rotate_left
    · intro w' hS'; (first | (go_simp; done) | (go_simp; with_reducible rfl) | with_reducible rfl)
    (try simp only [Act.put, List.setIfInBounds_toArray, List.set_cons_zero, List.set_cons_succ])
    refine wpAnyH_take (i := 5) (oi := ⟨_, _, _, _, _, _⟩) (v := ?_) rfl (by kernel_rfl) (by kernel_rfl) (by kernel_rfl) (fun _ _ _ h => h) (Or.inl ⟨by rfl, ?_⟩) ⟨hS, pa, pb⟩ ?_
    rotate_left
    · intro w' hS'; obtain ⟨_, q_pa, q_pb⟩ := hS'; have c0 := q_pb.cell0; have c1 := q_pb.cell1; (first | (go_simp; done) | (go_simp; with_reducible rfl) | with_reducible rfl)
    (try simp only [Act.put, List.setIfInBounds_toArray, List.set_cons_zero, List.set_cons_succ])
    refine wpAnyH_ready (rs := [2]) (by kernel_rfl) (by simp) ?_
    refine AllReadyH.cons (o := ⟨_, _, _, _, _, _⟩) rfl (fun K hK => ?_) AllReadyH.nil
    go_simp
    refine (ha.refTrim).mono ?_
    rintro e u1 ⟨m1, rfl, r1, y1, rfl⟩
    first | (with_reducible refine hK.out _ _ ⟨hS, pa, pb⟩ (fun _ => ?_)) | (go_wp2_with fail; with_reducible refine hK.out _ _ ⟨hS, pa, pb⟩ (fun _ => ?_))
    clear hK K
    (try simp only [Act.put, List.setIfInBounds_toArray, List.set_cons_zero, List.set_cons_succ])
    refine wpAnyH_ready (rs := [3]) (by kernel_rfl) (by simp) ?_
    refine AllReadyH.cons (o := ⟨_, _, _, _, _, _⟩) rfl (fun K hK => ?_) AllReadyH.nil
    rw [if_pos (by rfl)]
    refine wp_append_lst Tryz.elemU32 Tryz.underlying22 (Own.nil (Below.refl _ _)) r1 (by rfl) (by rfl) (by rfl) (by simp; omega) (by simp; omega) ?_
    intro va ua5 oa _ _
    rw [List.nil_append] at oa
    obtain ⟨A5, n5, c5, rfl, r5, h5, h5'⟩ := oa.form'
    have da := oa.below
    replace hS := bthen hS da
    (replace ha := ha.call da); (replace hb := hb.call da); (replace pr := pr.call da); (replace pa := pa.call da); (replace pb := pb.call da); (replace r1 := r1.call da)
    clear oa da
    refine hK.out _ _ ⟨hS, pa, pb⟩ (fun _ => ?_)
    clear hK K
    (try simp only [Act.put, List.setIfInBounds_toArray, List.set_cons_zero, List.set_cons_succ])
    refine wpAnyH_ready (rs := [6]) (by kernel_rfl) (by simp) ?_
    refine AllReadyH.cons (o := ⟨_, _, _, _, _, _⟩) rfl (fun K hK => ?_) AllReadyH.nil
    go_simp
    refine (hb.refTrim).mono ?_
    rintro e u2 ⟨m2, rfl, r2, y2, rfl⟩
    first | (with_reducible refine hK.out _ _ ⟨hS, pa, pb⟩ (fun _ => ?_)) | (go_wp2_with fail; with_reducible refine hK.out _ _ ⟨hS, pa, pb⟩ (fun _ => ?_))
    clear hK K
    (try simp only [Act.put, List.setIfInBounds_toArray, List.set_cons_zero, List.set_cons_succ])
    refine wpAnyH_ready (rs := [7]) (by kernel_rfl) (by simp) ?_
    refine AllReadyH.cons (o := ⟨_, _, _, _, _, _⟩) rfl (fun K hK => ?_) AllReadyH.nil
    rw [if_pos (by rfl)]
    refine wp_append_lst Tryz.elemU32 Tryz.underlying22 (Own.nil (Below.refl _ _)) r2 (by rfl) (by rfl) (by rfl) (by simp; omega) (by simp; omega) ?_
    intro va ua6 oa _ _
    rw [List.nil_append] at oa
    obtain ⟨A6, n6, c6, rfl, r6, h6, h6'⟩ := oa.form'
    have da := oa.below
    replace hS := bthen hS da
    (replace ha := ha.call da); (replace hb := hb.call da); (replace pr := pr.call da); (replace pa := pa.call da); (replace pb := pb.call da); (replace r1 := r1.call da); (replace r5 := r5.call da); (replace r2 := r2.call da)
    clear oa da
    refine hK.out _ _ ⟨hS, pa, pb⟩ (fun _ => ?_)
    clear hK K
    (try simp only [Act.put, List.setIfInBounds_toArray, List.set_cons_zero, List.set_cons_succ])
    refine wpAnyH_take (i := 8) (oi := ⟨_, _, _, _, _, _⟩) (v := ?_) rfl (by kernel_rfl) (by kernel_rfl) (by kernel_rfl) (fun _ _ _ h => h) (Or.inl ⟨by rfl, ?_⟩) ⟨hS, pa, pb⟩ ?_
    rotate_left
    · intro w' hS'; (first | (go_simp; done) | (go_simp; with_reducible rfl) | with_reducible rfl)
    (try simp only [Act.put, List.setIfInBounds_toArray, List.set_cons_zero, List.set_cons_succ])
    refine wpAnyH_take (i := 9) (oi := ⟨_, _, _, _, _, _⟩) (v := ?_) rfl (by kernel_rfl) (by kernel_rfl) (by kernel_rfl) (fun _ _ _ h => h) (Or.inl ⟨by rfl, ?_⟩) ⟨hS, pa, pb⟩ ?_
    rotate_left
    · intro w' hS'; (first | (go_simp; done) | (go_simp; with_reducible rfl) | with_reducible rfl)
    (try simp only [Act.put, List.setIfInBounds_toArray, List.set_cons_zero, List.set_cons_succ])
    refine wpAnyH_done (by kernel_rfl) ?_ _
    have l5 := r5.len
    have l6 := r6.len
    have z1 := r1.len
    have z2 := r2.len
    go_wp2_with fail
    go_meet
    case rel => exact ⟨_, _, _, _, _, _, _, _, rfl, rfl, r5, r6, h5, h5', h6, h6', by omega, by omega, HG.out, pr, hS⟩
  case rest =>
    obtain ⟨A1, n1, c1, A2, n2, c2, p, q, rfl, rfl, HE⟩ := hcut
    clear ha hb pa pb pr hS HG
    go_wp2_with fail
    go_loopg [5, 6, 7, 8] q (fun q v v' _ _ wz => ∃ A1 n1 c1 A2 n2 c2 p, v = .slice A1 n1 c1 ∧ v' = .slice A2 n2 c2 ∧ Hid (Rd .u32 wz wz.heap.size A1 n1 (digits p) ∧ Rd .u32 wz wz.heap.size A2 n2 (digits q) ∧ n1 ≤ c1 ∧ c1 ≤ 9223372036854775807 ∧ n2 ≤ c2 ∧ c2 ≤ 9223372036854775807 ∧ n1 ≤ 1073741824 ∧ n2 ≤ 1073741824 ∧ Nat.gcd p q = G ∧ Pr wz (w.heap.size + 1 + 1) false none 0 0 ∧ Below w.heap.size w wz))
    case atStart => exact ⟨_, _, _, _, _, _, _, rfl, rfl, HE⟩
    case round =>
      clear HE
      obtain ⟨q, rfl⟩ : ∃ i, i = gk := ⟨_, rfl⟩
      obtain ⟨A1, n1, c1, A2, n2, c2, p, rfl, rfl, HP⟩ := hrel
      obtain ⟨r1, r2, h1, h1', h2, h2', l1, l2, hgc, pr, bR⟩ := HP.out
      have HGC := Lib.hid hgc
      clear HP hgc
      by_cases h0 : n2 = 0
      · subst h0
        have hq0 : q = 0 := (digits_nil_iff q).1 r2.len
        subst hq0
        have hpG : p = G := by have := HGC.out; rwa [Nat.gcd_zero_right] at this
        subst hpG
        have HM := Lib.hid (make_mag false wr r1 h1 h1' (by omega))
        rw [sgn_f] at HM
        clear HGC
        go_wp2_with fail
        refine HM.out.mono ?_
        rintro e w2 ⟨neg, A5, n5, c5, rfl, ci, d2⟩
        have p2 := pr.call d2
        obtain ⟨q0, q1, f0, f1, k0, k1⟩ := p2.all (.bool neg) (.slice A5 n5 c5)
        clear HM
        go_wp2
        ((try simp only [Exit.inBlock, Exit.then]); refine bodyPost_ret (by simp [results, Tryz.results81, go_sem, k0, k1]; try rfl) rfl ?_)
        exact RetInt.stored ci p2 (bthen bR d2) (by omega)
      · have hgt : decide ((0 : Int) < (n2 : Int)) = true := by simp; omega
        have hgt' : 0 < n2 := by omega
        have hq0 : q ≠ 0 := by
          intro h; have := r2.len; rw [h, digits_zero] at this; simp at this; omega
        have HD := Lib.hid (divDigits_any wr r1 r2 h1 h1' h2 h2' l1 l2 hq0)
        have HQ := Lib.hid hq0
        clear hq0
        go_wp2_with fail
        refine HD.out.mono ?_
        rintro e W5 ⟨A5, n5, c5, A6, n6, c6, rfl, r5, r6, h5, h5', h6, h6', d5⟩
        replace r2 := r2.call d5
        replace pr := pr.call d5
        replace bR := bthen bR d5
        clear HD
        go_wp2_with fail
        go_roundg (p % q)
        case rel => exact ⟨A2, n2, c2, A6, n6, c6, q, rfl, rfl, r2, r6, h2, h2', h6, h6', l2, by rw [← r6.len]; exact Nat.le_trans (digits_len_mono (Nat.le_of_lt (Nat.mod_lt p (Nat.pos_of_ne_zero HQ.out)))) (by rw [r2.len]; exact l2), by rw [Nat.gcd_comm, ← Nat.gcd_rec, Nat.gcd_comm]; exact HGC.out, pr, bR⟩
        case measure => exact Nat.mod_lt p (Nat.pos_of_ne_zero HQ.out)
end Go.Proofs.YtociocengfjioaaGreatDoor
