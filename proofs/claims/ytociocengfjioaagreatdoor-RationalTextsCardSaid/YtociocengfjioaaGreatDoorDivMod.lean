/- Walk of DivMod. -/
import Derived.Test.YtociocengfjioaaGreatDoorIntJ
/- Floor division of signed numbers, plain. -/
namespace Go.Proofs.YtociocengfjioaaGreatDoor
open Go.RowKit
set_option linter.unusedVariables false

theorem floor_unique {x y q r : Int} (hy : y ≠ 0) (h : x = y * q + r) (hr : (0 < y → 0 ≤ r ∧ r < y) ∧ (y < 0 → y < r ∧ r ≤ 0)) : x.fdiv y = q ∧ x.fmod y = r := by
  rcases Int.lt_or_gt_of_ne hy with h0 | h0
  · have ⟨h1, h2⟩ := hr.2 h0
    have e : (-x).fdiv (-y) = q ∧ (-x).fmod (-y) = -r := by
      rw [Int.fdiv_eq_ediv_of_nonneg _ (by omega), Int.fmod_eq_emod_of_nonneg _ (by omega)]
      exact (Int.ediv_emod_unique (by omega)).2 ⟨by rw [h, Int.neg_mul]; omega, by omega, by omega⟩
    have m1 : x.fmod y + y * x.fdiv y = x := Int.fmod_add_mul_fdiv x y
    rw [Int.neg_fdiv_neg] at e
    refine ⟨e.1, ?_⟩
    rw [e.1] at m1
    omega
  · have ⟨h1, h2⟩ := hr.1 h0
    rw [Int.fdiv_eq_ediv_of_nonneg _ (by omega), Int.fmod_eq_emod_of_nonneg _ (by omega)]
    exact (Int.ediv_emod_unique h0).2 ⟨by omega, h1, h2⟩

theorem floor_signed {s t : Bool} {a b : Nat} (hb : 0 < b) :
    (sgn s a).fdiv (sgn t b) = (if 0 < a % b ∧ s ≠ t then sgn (!(s == t)) (a / b + 1) else sgn (!(s == t)) (a / b)) ∧
    (sgn s a).fmod (sgn t b) = (if 0 < a % b ∧ s ≠ t then sgn t (b - a % b) else sgn t (a % b)) := by
  have h1 := Nat.div_add_mod a b
  have h2 := Nat.mod_lt a hb
  generalize a / b = q at *
  generalize a % b = r at *
  have h1' : (b : Int) * q + r = a := by rw [← h1]; simp
  have h3 : (b : Int) * (q + 1) = b * q + b := by rw [Int.mul_add, Int.mul_one]
  generalize hm : (b : Int) * q = m at *
  apply floor_unique
  · cases t <;> simp [sgn] <;> omega
  · cases s <;> cases t <;> simp [sgn] <;> (try split) <;> simp [Int.neg_mul, Int.mul_neg, hm, h3] <;> omega
  · cases s <;> cases t <;> simp [sgn] <;> (try split) <;> constructor <;> intro _ <;> omega
end Go.Proofs.YtociocengfjioaaGreatDoor

namespace Go.Proofs.YtociocengfjioaaGreatDoor
open Go.RowKit
set_option linter.unusedVariables false

theorem boxes4 (w : World) (s t : Bool) (A A' : Option Addr) (n n' c c' : Nat) : ∃ W, W = (((w.alloc (.cells #[.bool s, .slice A n c] 24)).alloc (.cells #[.bool t, .slice A' n' c'] 24)).alloc (.cells #[.bool false, .slice none 0 0] 24)).alloc (.cells #[.bool false, .slice none 0 0] 24) ∧
    Below w.heap.size w W ∧ Pr W w.heap.size s A n c ∧ Pr W (w.heap.size + 1) t A' n' c' ∧ Pr W (w.heap.size + 1 + 1) false none 0 0 ∧ Pr W (w.heap.size + 1 + 1 + 1) false none 0 0 := by
  obtain ⟨W, hW, h1, h2, h3, h4⟩ := boxes2 w s t A A' n n' c c'
  refine ⟨_, rfl, ?_⟩
  rw [← hW]
  refine ⟨bthen h1 (bone _ _), h2.alloc _, h3.alloc _, h4.alloc _, ?_⟩
  have h := Pr.new W false none 0 0
  have hs : W.heap.size = w.heap.size + 1 + 1 + 1 := by rw [hW, alloc_size, alloc_size, alloc_size]
  rw [hs] at h
  exact h

theorem Pr.bools {w : World} {g g' : Nat} {s t : Bool} {A A' : Option Addr} {n c n' c' : Nat} (h : Pr w g s A n c) (h' : Pr w g' t A' n' c') : w.cell? ⟨g, 0, none⟩ = some (.bool s) ∧ w.cell? ⟨g', 0, none⟩ = some (.bool t) := ⟨h.cell0, h'.cell0⟩

def RetDM (w : World) (x y : Int) (e : Ending) (w' : World) : Prop :=
  ∃ s1 A1 n1 c1 s2 A2 n2 c2, ∃ code : Int, e = .returned (.tuple #[.agg #[.bool s1, .slice A1 n1 c1], .agg #[.bool s2, .slice A2 n2 c2], .int .i64 code]) ∧
    CInt w' s1 A1 n1 c1 (x.fdiv y) ∧ CInt w' s2 A2 n2 c2 (if y = 0 then 0 else x.fmod y) ∧ code = (if y = 0 then 11 else 0) ∧ Below w.heap.size w w'

set_option maxHeartbeats 1000000 in
set_option maxRecDepth 100000 in
theorem divMod_any {s t : Bool} {A A' : Option Addr} {n n' c c' : Nat} {x y : Int} (w : World) (ha : AInt w s A n c x) (hb : AInt w t A' n' c' y) (hn : n ≤ 549755813888) (hn' : n' ≤ 549755813888) :
    Calls Tryz.prog 86 #[.agg #[.bool s, .slice A n c], .agg #[.bool t, .slice A' n' c']] w (RetDM w x y) := by
  have hx := ha.sign_eq
  have hy := hb.sign_eq
  obtain ⟨m, hm, r, HA⟩ := ha.still
  obtain ⟨m', hm', r', HB⟩ := hb.still
  rw [hx, hy]
  clear hx hy ha hb
  generalize x.natAbs = a at *
  generalize y.natAbs = b at *
  have kb : m' = 0 ↔ b = 0 := by rw [← r'.len]; exact digits_nil_iff b
  obtain ⟨W, hW, bW, pa, pb, pq, pr⟩ := boxes4 w s t A A' n n' c c'
  have y0 := pa.drew.cells pb.drew
  go_enter Tryz.func86, Tryz.ntmps86
  go_wp2_with fail
  rw [← hW]
  clear hW
  go_region_held3 (fun w' => w'.cell? ⟨w.heap.size, 0, none⟩ = some (.bool s) ∧ w'.cell? ⟨w.heap.size, 1, none⟩ = some (.slice A n c) ∧ w'.cell? ⟨w.heap.size + 1, 0, none⟩ = some (.bool t) ∧ w'.cell? ⟨w.heap.size + 1, 1, none⟩ = some (.slice A' n' c'))
    (exact y0)
    ((first
      | (go_at_call 89; (with_reducible refine (HA.out _ bW.drew).mono ?_); rintro e wq ⟨rfl, rfl⟩)
      | (go_at_call 89; (with_reducible refine (HB.out _ bW.drew).mono ?_); rintro e wq ⟨rfl, rfl⟩)))
  replace bW := bW.drew
  replace pa := pa.drew
  replace pb := pb.drew
  replace pq := pq.drew
  replace pr := pr.drew
  generalize W.drew = X at *
  have bX := bW
  clear bW
  have rX := r.call bX
  have rX' := r'.call bX
  clear HA HB r r' y0
  obtain ⟨a0, a1, b0, b1⟩ := pa.cells pb
  by_cases hb0 : m' = 0
  · obtain rfl := kb.1 hb0
    subst hb0
    have P1 := pq.stored (s' := false) (A' := none) (n' := 0) (c' := 0)
    have P2 := (pr.far (g' := w.heap.size + 1 + 1) (by omega) (.bool false) (.slice none 0 0)).stored (s' := false) (A' := none) (n' := 0) (c' := 0)
    have P3 := P1.far (g' := w.heap.size + 1 + 1 + 1) (by omega) (.bool false) (.slice none 0 0)
    obtain ⟨q0, q1, f0, f1, k0, k1⟩ := pq.all (.bool false) (.slice none 0 0)
    obtain ⟨q0', q1', f0', f1', k0', k1'⟩ := (pr.far (g' := w.heap.size + 1 + 1) (by omega) (.bool false) (.slice none 0 0)).all (.bool false) (.slice none 0 0)
    have v0 := P3.cell0
    have v1 := P3.cell1
    go_wp2
    refine bodyPost_ret (v := .tuple #[.agg #[.bool false, .slice none 0 0], .agg #[.bool false, .slice none 0 0], .int .i64 11]) (by simp [results, Tryz.results86, go_sem, k0', k1', v0, v1]) rfl ?_
    rw [sgn_zero]
    exact ⟨_, _, _, _, _, _, _, _, _, rfl, by simpa using CInt.zero _, by simpa using CInt.zero _, by simp, below_stored (below_stored bX (by omega) _ _) (by omega) _ _⟩
  · have hb1 : 0 < b := by rcases Nat.eq_zero_or_pos b with h | h; exact absurd (kb.2 h) hb0; exact h
    have hne : ((m' : Int) == 0) = false := by simp; omega
    have hty : ¬ sgn t b = 0 := by unfold sgn; cases t <;> simp <;> omega
    have HD := Lib.hid (divMag_any (c := m) (c' := m') X rX rX' (by omega) (by omega) hb1)
    obtain ⟨fd, fm⟩ := floor_signed (s := s) (t := t) (a := a) hb1
    have HF := Lib.hid fd
    have HM := Lib.hid fm
    have HTY := Lib.hid hty
    have hrb : a % b < b := Nat.mod_lt _ hb1
    have hql : (digits (a / b)).length ≤ m := by rw [← rX.len]; exact digits_len_mono (Nat.div_le_self _ _)
    have hrl : (digits (a % b)).length ≤ m' := by rw [← rX'.len]; exact digits_len_mono (Nat.le_of_lt hrb)
    clear fd fm hty
    generalize a / b = qq at *
    generalize a % b = rr at *
    go_wp2_with fail
    refine HD.out.mono ?_
    rintro e w2 ⟨A4, n4, c4, A5, n5, c5, rfl, r4, r5, h4, h4', h5, h5', hb5⟩
    have pa2 := pa.call hb5
    have pb2 := pb.call hb5
    have pq2 := pq.call hb5
    have pr2 := pr.call hb5
    have b2 := bthen bX hb5
    have ry2 := rX'.call hb5
    have k5 : n5 = 0 ↔ rr = 0 := by rw [← r5.len]; exact digits_nil_iff rr
    clear hb5 bX pa pb pq pr rX rX' HD a0 a1 b0 b1
    obtain ⟨a0, a1, b0, b1⟩ := pa2.cells pb2
    have hn4 : n4 ≤ m := by rw [← r4.len]; exact hql
    have hn5 : n5 ≤ m' := by rw [← r5.len]; exact hrl
    clear hql hrl
    by_cases hadj : 0 < n5 ∧ s ≠ t
    · have hst : (s == t) = false := by simp; exact hadj.2
      have hst' : ¬ s = t := hadj.2
      have hn5' := hadj.1
      have hr0 : 0 < rr := by rcases Nat.eq_zero_or_pos rr with h | h; have := k5.2 h; omega; exact h
      have HQ : Hid ((sgn s a).fdiv (sgn t b) = sgn (!(s == t)) (qq + 1)) := by unfold Hid; rw [HF.out, if_pos ⟨hr0, hst'⟩]
      have HR : Hid ((sgn s a).fmod (sgn t b) = sgn t (b - rr)) := by unfold Hid; rw [HM.out, if_pos ⟨hr0, hst'⟩]
      have hgt : decide (0 < (n5 : Int)) = true := by simp; omega
      rw [hst, Bool.not_false] at HQ
      have HA := Lib.hid (fun W B h h' => addMag_any (c := c4) (c' := 1) (A := A4) (A' := B) (n := n4) (n' := 1) (xs := digits qq) (ys := [1]) W h h' (digits_w32 qq) (W32.mk (by omega) W32.nil) (by omega) (by omega))
      have HS := Lib.hid (fun W h h' => subMag_any (c := m') (c' := c5) (A := A') (A' := A5) (n := m') (n' := n5) (xs := digits b) (ys := digits rr) W h h' (digits_w32 b) (digits_w32 rr) (by omega) hn5 (by rw [val_digits, val_digits]; omega))
      simp only [val_digits] at HS HA
      clear hadj hst' k5
      go_wp2_with fail
      refine (HA.out _ _ (r4.alloc' _) ((Rd.one .u32 w2 _ rfl).more (by simp))).mono ?_
      rintro e w3 ⟨A6, n6, c6, rfl, r6, h6, h6', hb6⟩
      have b6 := bthen (bone w2 (.cells #[.int .u32 1] 86)) hb6
      have ry3 := ry2.call b6
      have r53 := r5.call b6
      replace pa2 := pa2.call b6
      replace pb2 := pb2.call b6
      replace pq2 := pq2.call b6
      replace pr2 := pr2.call b6
      replace b2 := bthen b2 b6
      clear HA a0 a1 b0 b1 r4 r5 ry2 hb6 b6
      go_wp2_with fail
      refine (HS.out _ ry3 r53).mono ?_
      rintro e w4 ⟨A7, n7, c7, rfl, r7, h7, h7', b7⟩
      replace pa2 := pa2.call b7
      replace pb2 := pb2.call b7
      replace pq2 := pq2.call b7
      replace pr2 := pr2.call b7
      replace b2 := bthen b2 b7
      replace r6 := r6.call b7
      clear HS ry3 r53 b7
      go_wp2_with fail
      have y0 := pa2.drew.bools pb2.drew
      go_region_held3 (fun w' => w'.cell? ⟨w.heap.size, 0, none⟩ = some (.bool s) ∧ w'.cell? ⟨w.heap.size + 1, 0, none⟩ = some (.bool t))
        (first | (with_reducible exact y0) | (with_reducible exact y1) | (with_reducible exact y2) | (with_reducible exact y3) | (with_reducible exact y4))
        ((first
          | (go_at_call 87; (with_reducible refine (wrap_mag true _ r6.drew h6 h6').mono ?_); rintro e u1 ⟨s8, A8, n8, c8, rfl, i8, d8⟩; have pa3 := pa2.drew.call d8; have pb3 := pb2.drew.call d8; have pq3 := pq2.drew.call d8; have pr3 := pr2.drew.call d8; have y1 := pa3.bools pb3; have r71 := r7.drew.call d8)
          | (go_at_call 87; (with_reducible refine (wrap_mag t _ r71 h7 h7').mono ?_); rintro e u2 ⟨s9, A9, n9, c9, rfl, i9, d9⟩; have pa4 := pa3.call d9; have pb4 := pb3.call d9; have pq4 := pq3.call d9; have pr4 := pr3.call d9; have y2 := pa4.bools pb4; have i8' := i8.call d9; have pa5 := pa4.far (g' := w.heap.size + 1 + 1) (by omega) (.bool s8) (.slice A8 n8 c8); have pb5 := pb4.far (g' := w.heap.size + 1 + 1) (by omega) (.bool s8) (.slice A8 n8 c8); have y3 := pa5.bools pb5; have y4 := (pa5.far (g' := w.heap.size + 1 + 1 + 1) (by omega) (.bool s9) (.slice A9 n9 c9)).bools (pb5.far (g' := w.heap.size + 1 + 1 + 1) (by omega) (.bool s9) (.slice A9 n9 c9)); have pr5 := pr4.far (g' := w.heap.size + 1 + 1) (by omega) (.bool s8) (.slice A8 n8 c8); obtain ⟨q0, q1, f0, f1, k0, k1⟩ := pq4.all (.bool s8) (.slice A8 n8 c8); obtain ⟨q0', q1', f0', f1', k0', k1'⟩ := pr5.all (.bool s9) (.slice A9 n9 c9))))
      have bZ := bthen (bthen b2.drew d8) d9
      have z1 := (i8'.stored pq4 (.bool s8) (.slice A8 n8 c8)).stored pr5 (.bool s9) (.slice A9 n9 c9)
      have z2 := (i9.stored pq4 (.bool s8) (.slice A8 n8 c8)).stored pr5 (.bool s9) (.slice A9 n9 c9)
      obtain ⟨v0, v1⟩ := ((pq4.stored (s' := s8) (A' := A8) (n' := n8) (c' := c8)).far (g' := w.heap.size + 1 + 1 + 1) (by omega) (.bool s9) (.slice A9 n9 c9)).cells1
      go_wp2
      refine bodyPost_ret (v := .tuple #[.agg #[.bool s8, .slice A8 n8 c8], .agg #[.bool s9, .slice A9 n9 c9], .int .i64 0]) (by simp [results, Tryz.results86, go_sem, k0', k1', v0, v1]) rfl ?_
      exact ⟨_, _, _, _, _, _, _, _, _, rfl, by rw [HQ.out]; exact z1, by rw [if_neg HTY.out, HR.out]; exact z2, by rw [if_neg HTY.out], below_stored (below_stored bZ (by omega) _ _) (by omega) _ _⟩
    · have HQ : Hid ((sgn s a).fdiv (sgn t b) = sgn (!(s == t)) qq) := by unfold Hid; rw [HF.out, if_neg (fun h => hadj ⟨by rcases Nat.eq_zero_or_pos n5 with h5 | h5; have := k5.1 h5; omega; exact h5, h.2⟩)]
      have HR : Hid ((sgn s a).fmod (sgn t b) = sgn t rr) := by unfold Hid; rw [HM.out, if_neg (fun h => hadj ⟨by rcases Nat.eq_zero_or_pos n5 with h5 | h5; have := k5.1 h5; omega; exact h5, h.2⟩)]
      have r6 := r4
      have r7 := r5
      have h6 := h4
      have h6' := h4'
      have h7 := h5
      have h7' := h5'
      clear r4 r5 h4 h4' h5 h5' k5 HF HM kb hne
      by_cases hn5' : n5 = 0
      · subst hn5'
        clear hadj
        go_wp2_with fail
        have y0 := pa2.drew.bools pb2.drew
        go_region_held3 (fun w' => w'.cell? ⟨w.heap.size, 0, none⟩ = some (.bool s) ∧ w'.cell? ⟨w.heap.size + 1, 0, none⟩ = some (.bool t))
          (first | (with_reducible exact y0) | (with_reducible exact y1) | (with_reducible exact y2) | (with_reducible exact y3) | (with_reducible exact y4))
          ((first
            | (go_at_call 87; (with_reducible refine (wrap_mag (!(s == t)) _ r6.drew h6 h6').mono ?_); rintro e u1 ⟨s8, A8, n8, c8, rfl, i8, d8⟩; have pa3 := pa2.drew.call d8; have pb3 := pb2.drew.call d8; have pq3 := pq2.drew.call d8; have pr3 := pr2.drew.call d8; have y1 := pa3.bools pb3; have r71 := r7.drew.call d8)
            | (go_at_call 87; (with_reducible refine (wrap_mag t _ r71 h7 h7').mono ?_); rintro e u2 ⟨s9, A9, n9, c9, rfl, i9, d9⟩; have pa4 := pa3.call d9; have pb4 := pb3.call d9; have pq4 := pq3.call d9; have pr4 := pr3.call d9; have y2 := pa4.bools pb4; have i8' := i8.call d9; have pa5 := pa4.far (g' := w.heap.size + 1 + 1) (by omega) (.bool s8) (.slice A8 n8 c8); have pb5 := pb4.far (g' := w.heap.size + 1 + 1) (by omega) (.bool s8) (.slice A8 n8 c8); have y3 := pa5.bools pb5; have y4 := (pa5.far (g' := w.heap.size + 1 + 1 + 1) (by omega) (.bool s9) (.slice A9 n9 c9)).bools (pb5.far (g' := w.heap.size + 1 + 1 + 1) (by omega) (.bool s9) (.slice A9 n9 c9)); have pr5 := pr4.far (g' := w.heap.size + 1 + 1) (by omega) (.bool s8) (.slice A8 n8 c8); obtain ⟨q0, q1, f0, f1, k0, k1⟩ := pq4.all (.bool s8) (.slice A8 n8 c8); obtain ⟨q0', q1', f0', f1', k0', k1'⟩ := pr5.all (.bool s9) (.slice A9 n9 c9))))
        have bZ := bthen (bthen b2.drew d8) d9
        have z1 := (i8'.stored pq4 (.bool s8) (.slice A8 n8 c8)).stored pr5 (.bool s9) (.slice A9 n9 c9)
        have z2 := (i9.stored pq4 (.bool s8) (.slice A8 n8 c8)).stored pr5 (.bool s9) (.slice A9 n9 c9)
        obtain ⟨v0, v1⟩ := ((pq4.stored (s' := s8) (A' := A8) (n' := n8) (c' := c8)).far (g' := w.heap.size + 1 + 1 + 1) (by omega) (.bool s9) (.slice A9 n9 c9)).cells1
        go_wp2
        refine bodyPost_ret (v := .tuple #[.agg #[.bool s8, .slice A8 n8 c8], .agg #[.bool s9, .slice A9 n9 c9], .int .i64 0]) (by simp [results, Tryz.results86, go_sem, k0', k1', v0, v1]) rfl ?_
        exact ⟨_, _, _, _, _, _, _, _, _, rfl, by rw [HQ.out]; exact z1, by rw [if_neg HTY.out, HR.out]; exact z2, by rw [if_neg HTY.out], below_stored (below_stored bZ (by omega) _ _) (by omega) _ _⟩
      · have hst : s = t := by by_cases e : s = t; exact e; exact absurd ⟨by omega, e⟩ hadj
        subst hst
        have hgt : decide (0 < (n5 : Int)) = true := by simp; omega
        have hgn : 0 < n5 := by omega
        have hsf : (!(s == s)) = false := by simp
        rw [hsf] at HQ
        clear hadj hsf
        go_wp2_with fail
        have y0 := pa2.drew.bools pb2.drew
        go_region_held3 (fun w' => w'.cell? ⟨w.heap.size, 0, none⟩ = some (.bool s) ∧ w'.cell? ⟨w.heap.size + 1, 0, none⟩ = some (.bool s))
          (first | (with_reducible exact y0) | (with_reducible exact y1) | (with_reducible exact y2) | (with_reducible exact y3) | (with_reducible exact y4))
          ((first
            | (go_at_call 87; (with_reducible refine (wrap_mag false _ r6.drew h6 h6').mono ?_); rintro e u1 ⟨s8, A8, n8, c8, rfl, i8, d8⟩; have pa3 := pa2.drew.call d8; have pb3 := pb2.drew.call d8; have pq3 := pq2.drew.call d8; have pr3 := pr2.drew.call d8; have y1 := pa3.bools pb3; have r71 := r7.drew.call d8)
            | (go_at_call 87; (with_reducible refine (wrap_mag s _ r71 h7 h7').mono ?_); rintro e u2 ⟨s9, A9, n9, c9, rfl, i9, d9⟩; have pa4 := pa3.call d9; have pb4 := pb3.call d9; have pq4 := pq3.call d9; have pr4 := pr3.call d9; have y2 := pa4.bools pb4; have i8' := i8.call d9; have pa5 := pa4.far (g' := w.heap.size + 1 + 1) (by omega) (.bool s8) (.slice A8 n8 c8); have pb5 := pb4.far (g' := w.heap.size + 1 + 1) (by omega) (.bool s8) (.slice A8 n8 c8); have y3 := pa5.bools pb5; have y4 := (pa5.far (g' := w.heap.size + 1 + 1 + 1) (by omega) (.bool s9) (.slice A9 n9 c9)).bools (pb5.far (g' := w.heap.size + 1 + 1 + 1) (by omega) (.bool s9) (.slice A9 n9 c9)); have pr5 := pr4.far (g' := w.heap.size + 1 + 1) (by omega) (.bool s8) (.slice A8 n8 c8); obtain ⟨q0, q1, f0, f1, k0, k1⟩ := pq4.all (.bool s8) (.slice A8 n8 c8); obtain ⟨q0', q1', f0', f1', k0', k1'⟩ := pr5.all (.bool s9) (.slice A9 n9 c9))))
        have bZ := bthen (bthen b2.drew d8) d9
        have z1 := (i8'.stored pq4 (.bool s8) (.slice A8 n8 c8)).stored pr5 (.bool s9) (.slice A9 n9 c9)
        have z2 := (i9.stored pq4 (.bool s8) (.slice A8 n8 c8)).stored pr5 (.bool s9) (.slice A9 n9 c9)
        obtain ⟨v0, v1⟩ := ((pq4.stored (s' := s8) (A' := A8) (n' := n8) (c' := c8)).far (g' := w.heap.size + 1 + 1 + 1) (by omega) (.bool s9) (.slice A9 n9 c9)).cells1
        go_wp2
        refine bodyPost_ret (v := .tuple #[.agg #[.bool s8, .slice A8 n8 c8], .agg #[.bool s9, .slice A9 n9 c9], .int .i64 0]) (by simp [results, Tryz.results86, go_sem, k0', k1', v0, v1]) rfl ?_
        exact ⟨_, _, _, _, _, _, _, _, _, rfl, by rw [HQ.out]; exact z1, by rw [if_neg HTY.out, HR.out]; exact z2, by rw [if_neg HTY.out], below_stored (below_stored bZ (by omega) _ _) (by omega) _ _⟩
end Go.Proofs.YtociocengfjioaaGreatDoor
