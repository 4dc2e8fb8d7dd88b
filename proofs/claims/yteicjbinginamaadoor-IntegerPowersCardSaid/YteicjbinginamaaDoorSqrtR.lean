/- Walk of Sqrt of the reference. -/
import Derived.Test.YteicjbinginamaaDoorSqrt
import Derived.Test.YteicjbinginamaaDoorSqrtRPlain
namespace Go.Proofs.YteicjbinginamaaDoor
open Go.RowKit
set_option linter.unusedVariables false

/-- the state of the loop of the reference's Sqrt -/
def SqR (w wr : World) (g4 : Nat) (A : Option Addr) (n c : Nat) (a j : Nat) : Prop :=
  ∃ r t A' n' c', SqB a r j ∧ Pr wr g4 t A' n' c' ∧ CInt wr t A' n' c' (r : Int) ∧ Pr wr w.heap.size false A n c ∧ CInt wr false A n c (a : Int) ∧ Pr wr (w.heap.size + 1) false none 0 0 ∧ Below w.heap.size w wr

/-- what the comparison says -/
def SqC (a r P : Nat) (k : Int) (j : Nat) : Prop := (k ≤ 0 → (r + P) * (r + P) ≤ a) ∧ (0 < k → a < (r + P) * (r + P))
theorem SqC.of {a r P j : Nat} {k : Int} (h : cmpz (((r : Int) + (P : Int)) * ((r : Int) + (P : Int))) (a : Int) = k) : SqC a r P k j := by
  unfold SqC
  obtain ⟨q, hq⟩ : ∃ q, (r + P) * (r + P) = q := ⟨_, rfl⟩
  have hc : ((r : Int) + (P : Int)) * ((r : Int) + (P : Int)) = (q : Int) := by rw [← hq]; push_cast; rfl
  rw [hc] at h
  rw [hq]
  clear hc hq
  unfold cmpz at h
  split at h
  · omega
  · split at h <;> omega

theorem one_word (u : World) (x : Nat) (ty : Nat) : Rd .u32 (u.alloc (.cells #[.int .u32 x] ty)) (u.alloc (.cells #[.int .u32 x] ty)).heap.size (some ⟨u.heap.size, 0, none⟩) 1 [x] := by
  refine ⟨rfl, fun _ => ⟨_, _, rfl, by rw [alloc_size]; omega, ?_⟩⟩
  intro j y h
  match j, h with
  | 0, h => simp at h; subst h; go_simp

set_option maxHeartbeats 4000000 in
set_option maxRecDepth 100000 in
theorem refSqrt_any {s : Bool} {A : Option Addr} {n c : Nat} {x : Int} (w : World) (ha : AInt w s A n c x) (hn : n ≤ 1048576) :
    Calls Tryd.prog 43 #[.agg #[.bool s, .slice A n c]] w (RetSq w x) := by
  obtain ⟨W, hW, bW, pa, pr⟩ := boxes1 w s A n c
  replace ha := ha.call bW
  have LX : Lim 1048576 x := ha.lim.mono hn
  have a0 := pa.cell0
  have a1 := pa.cell1
  have H1 := Lib.hid (canon_any W ha (by omega))
  go_enter Tryd.func43, Tryd.ntmps43
  go_upto_region 1 with (fail)
  rw [← hW]
  clear hW
  go_wp2_with fail
  refine H1.out.mono ?_
  rintro e X1 ⟨s1, A1, n1, c1, rfl, i1, d1⟩
  have sz := pr.lt
  (replace pa := pa.call d1); (replace pr := pr.call d1)
  replace bW := bthen bW d1
  have l1 := i1.len LX
  clear H1 d1 a0 a1 ha
  obtain ⟨q0, q1, f0, f1, k0, k1⟩ := pa.all (.bool s1) (.slice A1 n1 c1)
  have bX := below_stored bW (g := w.heap.size) (by omega) (.bool s1) (.slice A1 n1 c1)
  have iX := i1.stored pa (.bool s1) (.slice A1 n1 c1)
  have prX := pr.far (g' := w.heap.size) (by omega) (.bool s1) (.slice A1 n1 c1)
  have paX := pa.stored (s' := s1) (A' := A1) (n' := n1) (c' := c1)
  go_upto_region 2 with (fail)
  clear q0 q1 f0 f1 k0 k1 pa pr i1 bW
  generalize (X1.setCell ⟨w.heap.size, 0, none⟩ (.bool s1)).setCell ⟨w.heap.size, 1, none⟩ (.slice A1 n1 c1) = X2 at *
  obtain ⟨a0, a1⟩ := paX.cells1
  by_cases hx : x < 0
  · obtain rfl : s1 = true := by rw [iX.2.1]; simp; exact hx
    obtain ⟨q0, q1, f0, f1, k0, k1⟩ := prX.all (.bool false) (.slice none 0 0)
    have fin : RetSq w x (.returned (.tuple #[.agg #[.bool false, .slice none 0 0], .int .i64 5])) ((X2.setCell ⟨w.heap.size + 1, 0, none⟩ (.bool false)).setCell ⟨w.heap.size + 1, 1, none⟩ (.slice none 0 0)) :=
      ⟨0, 5, ⟨_, _, _, _, rfl, CInt.zero _, below_stored bX (by omega) _ _⟩, .inl ⟨hx, rfl, rfl⟩⟩
    have F := Lib.hid fin
    clear fin hx
    go_wp2
    refine bodyPost_ret (v := .tuple #[.agg #[.bool false, .slice none 0 0], .int .i64 5]) (by simp [results, Tryd.results43, go_sem, k0, k1]) rfl ?_
    exact F.out
  · obtain ⟨a, rfl⟩ : ∃ a : Nat, x = a := ⟨x.toNat, by omega⟩
    obtain rfl : s1 = false := by rw [iX.2.1]; simp
    obtain ⟨X3, hX3⟩ : ∃ X3, X3 = X2.alloc (.cells #[.bool false, .slice none 0 0] 24) := ⟨_, rfl⟩
    have d3 : Below X2.heap.size X2 X3 := by rw [hX3]; exact bone _ _
    have p4 : Pr X3 X2.heap.size false none 0 0 := by rw [hX3]; exact Pr.new _ _ _ _ _
    have sz2 := prX.lt
    (replace paX := paX.call d3); (replace prX := prX.call d3); (replace iX := iX.call d3)
    replace bX := bthen bX d3
    go_upto_region 5 with (fail)
    rw [← hX3]
    clear hX3 d3 a0 a1
    generalize X2.heap.size = g4 at *
    obtain ⟨a0, a1⟩ := paX.cells1
    have HB := Lib.hid (refBitLen_any (c := c1) X3 iX.1 (digits_w32 _) iX.2.2.1 iX.2.2.2 (by omega))
    rw [val_digits, Int.natAbs_natCast] at HB
    have HST := Lib.hid (SqB.start a)
    have hbl : blen a ≤ 33554432 := by have h := LX.blen; rw [Int.natAbs_natCast] at h; omega
    obtain ⟨K, hK⟩ : ∃ K, blen a / 2 = K := ⟨_, rfl⟩
    rw [hK] at HST
    have hkb : K ≤ 16777216 := by omega
    have hke : ((blen a : Int)) / 2 = (K : Int) := by omega
    have hke' : ((blen a : Int)).tdiv 2 = (K : Int) := by rw [Int.tdiv_eq_ediv_of_nonneg (by omega)]; omega
    clear hK
    generalize blen a = bl at *
    go_wp2_with fail
    refine HB.out.mono ?_
    rintro e X4 ⟨rfl, rfl⟩
    clear HB a0 a1
    go_upto_block 0 with (fail)
    have nq : w.heap.size + 1 < g4 := by omega
    replace LX := Lib.hid LX
    have HE : Hid (SqR w X3 g4 A1 n1 c1 a (K + 1)) := ⟨0, _, _, _, _, HST.out, p4, CInt.zero _, paX, iX, prX, bX⟩
    clear p4 paX iX prX bX HST sz sz2 hke hke'
    go_wp2_with fail
    go_loopg [5] (K + 1) (fun j iv wx => iv = .int .i64 ((j : Int) - 1) ∧ j ≤ K + 1 ∧ Hid (SqR w wx g4 A1 n1 c1 a j))
    case atStart => exact ⟨by go_num, by omega, HE⟩
    case round =>
      clear HE
      obtain ⟨j, rfl⟩ : ∃ i, i = gk := ⟨_, rfl⟩
      obtain ⟨rfl, hj, HP⟩ := hrel
      obtain ⟨r, s4, A4, n4, c4, hb, p4, i4, pa, ia, pr, bR⟩ := HP.out
      clear HP
      match j, hj, hb with
      | 0, hj, hb =>
        obtain ⟨a0, a1⟩ := p4.cells1
        obtain ⟨q0, q1, f0, f1, k0, k1⟩ := pr.all (.bool s4) (.slice A4 n4 c4)
        have fin : RetSq w (a : Int) (.returned (.tuple #[.agg #[.bool s4, .slice A4 n4 c4], .int .i64 0])) ((wr.setCell ⟨w.heap.size + 1, 0, none⟩ (.bool s4)).setCell ⟨w.heap.size + 1, 1, none⟩ (.slice A4 n4 c4)) :=
          ⟨r, 0, ⟨_, _, _, _, rfl, i4.stored pr _ _, below_stored bR (by omega) _ _⟩, hb.fin⟩
        have F := Lib.hid fin
        clear fin hb
        rw [show (((0 : Nat) : Int) - 1) = -1 by rfl]
        go_wp2
        refine bodyPost_ret (v := .tuple #[.agg #[.bool s4, .slice A4 n4 c4], .int .i64 0]) (by simp [results, Tryd.results43, go_sem, k0, k1]) rfl ?_
        exact F.out
      | j + 1, hj, hb =>
        have hd : decide ((0 : Int) ≤ (j : Int)) = true := by simp
        have HB := Lib.hid hb
        clear hb
        rw [show (((j + 1 : Nat) : Int) - 1) = (j : Int) by omega]
        have hjK : j ≤ K := by omega
        have lr : Lim 1048576 (r : Int) := LX.out.nat_le HB.out.le
        have lj : Lim 600000 ((2 ^ j : Nat) : Int) := lim_pow (by omega)
        have l4 := i4.len lr
        have HJ : (digits (2 ^ j)).length ≤ 600000 := digits_len_le (by have h := lj; unfold Lim at h; rwa [Int.natAbs_natCast] at h)
        have HS : Hid (∀ (W : World) (B : Option Addr) (d : Nat), Rd .u32 W W.heap.size B 1 [1] → Calls Tryd.prog 75 #[.slice B 1 d, .int .i64 j] W (RetMag W (2 ^ j))) := fun W B d h => by
          have h' := refShift_any (c := d) (k := j) W h (by intro x hx; simp at hx; omega) (by omega) (by omega)
          rwa [show val [1] * 2 ^ j = 2 ^ j by rw [show val [1] = 1 by rfl, Nat.one_mul]] at h'
        have LT := Lib.hid (Lim.add lr (lj.mono (show 600000 ≤ 1048576 by omega)))
        replace lj := Lib.hid lj
        replace lr := Lib.hid lr
        have HT := Lib.hid (@SqB.take a r j HB.out)
        have HLV := Lib.hid (@SqB.leave a r j HB.out)
        generalize 2 ^ j = P at *
        go_upto_region 8 with (fail)
        go_cut [6] (fun v wz => Box wr wz v ((r : Int) + (P : Int)))
        case first =>
          refine wp_region_held_drew (S := fun w' => Below wr.heap.size wr w') (by kernel_rfl) (bdrew wr) (fun _ => ?_)
          have hS : Below wr.heap.size wr wr.drew := bdrew wr
          generalize wr.drew = u0 at hS ⊢
          refine wpAnyH_take (i := 0) (oi := ⟨_, _, _, _, _, _⟩) (v := ?_) rfl (by kernel_rfl) (by kernel_rfl) (by kernel_rfl) (fun _ _ _ h => h) (Or.inl ⟨by rfl, ?_⟩) hS ?_
          rotate_left
          · intro w' hS'; have p' := p4.call hS'; have c0 := p'.cell0; have c1 := p'.cell1; (first | (go_simp; done) | (go_simp; with_reducible rfl) | with_reducible rfl)
          (try simp only [Act.put, List.setIfInBounds_toArray, List.set_cons_zero, List.set_cons_succ])
          refine wpAnyH_take (i := 2) (oi := ⟨_, _, _, _, _, _⟩) (v := ?_) rfl (by kernel_rfl) (by kernel_rfl) (by kernel_rfl) (fun _ _ _ h => h) (Or.inl ⟨by rfl, ?_⟩) hS ?_
          rotate_left
          · intro w' hS'; (first | (go_simp; done) | (go_simp; with_reducible rfl) | with_reducible rfl)
          (try simp only [Act.put, List.setIfInBounds_toArray, List.set_cons_zero, List.set_cons_succ])
          refine wpAnyH_ready (rs := [1, 6]) (by kernel_rfl) (by simp) ?_
          refine AllReadyH.cons (o := ⟨_, _, _, _, _, _⟩) rfl (fun K hK => ?_) (AllReadyH.cons (o := ⟨_, _, _, _, _, _⟩) rfl (fun K hK => ?_) AllReadyH.nil)
          · go_simp
            have rb22 := one_word u0 1 54
            have az := bone u0 (.cells #[.int .u32 1] 54)
            replace hS := bthen hS az
            refine hK.out _ _ hS (fun _ => ?_)
            clear hK K az
            generalize hgz : u0.heap.size = gb22 at rb22 ⊢
            clear hgz
            generalize u0.alloc (.cells #[.int .u32 1] 54) = u0b22 at *
            (try simp only [Act.put, List.setIfInBounds_toArray, List.set_cons_zero, List.set_cons_succ])
            refine wpAnyH_ready (rs := [3, 6]) (by kernel_rfl) (by simp) ?_
            refine AllReadyH.cons (o := ⟨_, _, _, _, _, _⟩) rfl (fun K hK => ?_) (AllReadyH.cons (o := ⟨_, _, _, _, _, _⟩) rfl (fun K hK => ?_) AllReadyH.nil)
            · go_simp
              refine (HS.out _ _ _ rb22).mono ?_
              rintro e u1 ⟨B1, m1, e1, rfl, r1, h1, h1', d1⟩
              replace hS := bthen hS d1
              (replace rb22 := rb22.call d1)
              first | (with_reducible refine hK.out _ _ hS (fun _ => ?_)) | (go_wp2_with fail; with_reducible refine hK.out _ _ hS (fun _ => ?_))
              clear hK K
              have lm1 := r1.len; rw [lm1] at HJ
              (try simp only [Act.put, List.setIfInBounds_toArray, List.set_cons_zero, List.set_cons_succ])
              refine wpAnyH_ready (rs := [4, 6]) (by kernel_rfl) (by simp) ?_
              refine AllReadyH.cons (o := ⟨_, _, _, _, _, _⟩) rfl (fun K hK => ?_) (AllReadyH.cons (o := ⟨_, _, _, _, _, _⟩) rfl (fun K hK => ?_) AllReadyH.nil)
              · go_simp
                refine (make_mag false _ r1 h1 h1' (by omega)).mono ?_
                rintro e u2 ⟨t2, B2, m2, e2, rfl, j2, d2⟩
                replace hS := bthen hS d2
                (replace rb22 := rb22.call d2); (replace r1 := r1.call d2)
                first | (with_reducible refine hK.out _ _ hS (fun _ => ?_)) | (go_wp2_with fail; with_reducible refine hK.out _ _ hS (fun _ => ?_))
                clear hK K
                (try simp only [Act.put, List.setIfInBounds_toArray, List.set_cons_zero, List.set_cons_succ])
                refine wpAnyH_ready (rs := [5, 6]) (by kernel_rfl) (by simp) ?_
                refine AllReadyH.cons (o := ⟨_, _, _, _, _, _⟩) rfl (fun K hK => ?_) (AllReadyH.cons (o := ⟨_, _, _, _, _, _⟩) rfl (fun K hK => ?_) AllReadyH.nil)
                · go_simp
                  refine (refAdd_any _ (i4.call hS).any j2.any (by omega) (Nat.le_trans (j2.len lj.out) (by omega))).mono ?_
                  rintro e u3 ⟨t3, B3, m3, e3, rfl, j3, d3⟩
                  replace hS := bthen hS d3
                  (replace rb22 := rb22.call d3); (replace r1 := r1.call d3); (replace j2 := j2.call d3)
                  first | (with_reducible refine hK.out _ _ hS (fun _ => ?_)) | (go_wp2_with fail; with_reducible refine hK.out _ _ hS (fun _ => ?_))
                  clear hK K
                  (try simp only [Act.put, List.setIfInBounds_toArray, List.set_cons_zero, List.set_cons_succ])
                  refine wpAnyH_ready (rs := [6]) (by kernel_rfl) (by simp) ?_
                  refine AllReadyH.cons (o := ⟨_, _, _, _, _, _⟩) rfl (fun K hK => ?_) AllReadyH.nil
                  go_simp
                  have pz6 := Pr.new u3 false none 0 0
                  have az := bone u3 (.cells #[.bool false, .slice none 0 0] 24)
                  have hz6 := hS.size
                  replace hS := bthen hS az
                  (replace rb22 := rb22.call az); (replace r1 := r1.call az); (replace j2 := j2.call az); (replace j3 := j3.call az)
                  refine hK.out _ _ hS (fun _ => ?_)
                  clear hK K az
                  generalize hgz : u3.heap.size = gz6 at hz6 pz6 ⊢
                  clear hgz
                  generalize u3.alloc (.cells #[.bool false, .slice none 0 0] 24) = u3z6 at *
                  (try simp only [Act.put, List.setIfInBounds_toArray, List.set_cons_zero, List.set_cons_succ])
                  refine wpAnyH_ready (rs := [7]) (by kernel_rfl) (by simp) ?_
                  refine AllReadyH.cons (o := ⟨_, _, _, _, _, _⟩) rfl (fun K hK => ?_) AllReadyH.nil
                  obtain ⟨q0, q1, f0, f1, k0, k1⟩ := pz6.all (.bool t3) (.slice B3 m3 e3)
                  go_simp
                  replace hS := below_stored hS hz6 (.bool t3) (.slice B3 m3 e3)
                  refine hK.out _ _ hS (fun _ => ?_)
                  clear hK K q0 q1 f0 f1 k0 k1
                  replace rb22 := rb22.stored pz6 (.bool t3) (.slice B3 m3 e3)
                  replace r1 := r1.stored pz6 (.bool t3) (.slice B3 m3 e3)
                  replace j2 := j2.stored pz6 (.bool t3) (.slice B3 m3 e3)
                  replace j3 := j3.stored pz6 (.bool t3) (.slice B3 m3 e3)
                  replace pz6 := pz6.stored (s' := t3) (A' := B3) (n' := m3) (c' := e3)
                  (try simp only [Act.put, List.setIfInBounds_toArray, List.set_cons_zero, List.set_cons_succ])
                  refine wpAnyH_done (by kernel_rfl) ?_ _
                  go_wp2_with fail
                  go_meet
                  case rel => exact ⟨_, _, _, _, _, rfl, pz6, j3, hS, hz6⟩
                · go_simp
                  have pz6 := Pr.new u2 false none 0 0
                  have az := bone u2 (.cells #[.bool false, .slice none 0 0] 24)
                  have hz6 := hS.size
                  replace hS := bthen hS az
                  (replace rb22 := rb22.call az); (replace r1 := r1.call az); (replace j2 := j2.call az)
                  refine hK.out _ _ hS (fun _ => ?_)
                  clear hK K az
                  generalize hgz : u2.heap.size = gz6 at hz6 pz6 ⊢
                  clear hgz
                  generalize u2.alloc (.cells #[.bool false, .slice none 0 0] 24) = u2z6 at *
                  (try simp only [Act.put, List.setIfInBounds_toArray, List.set_cons_zero, List.set_cons_succ])
                  refine wpAnyH_ready (rs := [5]) (by kernel_rfl) (by simp) ?_
                  refine AllReadyH.cons (o := ⟨_, _, _, _, _, _⟩) rfl (fun K hK => ?_) AllReadyH.nil
                  go_simp
                  refine (refAdd_any _ (i4.call hS).any j2.any (by omega) (Nat.le_trans (j2.len lj.out) (by omega))).mono ?_
                  rintro e u3 ⟨t3, B3, m3, e3, rfl, j3, d3⟩
                  replace hS := bthen hS d3
                  (replace rb22 := rb22.call d3); (replace r1 := r1.call d3); (replace j2 := j2.call d3); (replace pz6 := pz6.call d3)
                  first | (with_reducible refine hK.out _ _ hS (fun _ => ?_)) | (go_wp2_with fail; with_reducible refine hK.out _ _ hS (fun _ => ?_))
                  clear hK K
                  (try simp only [Act.put, List.setIfInBounds_toArray, List.set_cons_zero, List.set_cons_succ])
                  refine wpAnyH_ready (rs := [7]) (by kernel_rfl) (by simp) ?_
                  refine AllReadyH.cons (o := ⟨_, _, _, _, _, _⟩) rfl (fun K hK => ?_) AllReadyH.nil
                  obtain ⟨q0, q1, f0, f1, k0, k1⟩ := pz6.all (.bool t3) (.slice B3 m3 e3)
                  go_simp
                  replace hS := below_stored hS hz6 (.bool t3) (.slice B3 m3 e3)
                  refine hK.out _ _ hS (fun _ => ?_)
                  clear hK K q0 q1 f0 f1 k0 k1
                  replace rb22 := rb22.stored pz6 (.bool t3) (.slice B3 m3 e3)
                  replace r1 := r1.stored pz6 (.bool t3) (.slice B3 m3 e3)
                  replace j2 := j2.stored pz6 (.bool t3) (.slice B3 m3 e3)
                  replace j3 := j3.stored pz6 (.bool t3) (.slice B3 m3 e3)
                  replace pz6 := pz6.stored (s' := t3) (A' := B3) (n' := m3) (c' := e3)
                  (try simp only [Act.put, List.setIfInBounds_toArray, List.set_cons_zero, List.set_cons_succ])
                  refine wpAnyH_done (by kernel_rfl) ?_ _
                  go_wp2_with fail
                  go_meet
                  case rel => exact ⟨_, _, _, _, _, rfl, pz6, j3, hS, hz6⟩
              · go_simp
                have pz6 := Pr.new u1 false none 0 0
                have az := bone u1 (.cells #[.bool false, .slice none 0 0] 24)
                have hz6 := hS.size
                replace hS := bthen hS az
                (replace rb22 := rb22.call az); (replace r1 := r1.call az)
                refine hK.out _ _ hS (fun _ => ?_)
                clear hK K az
                generalize hgz : u1.heap.size = gz6 at hz6 pz6 ⊢
                clear hgz
                generalize u1.alloc (.cells #[.bool false, .slice none 0 0] 24) = u1z6 at *
                (try simp only [Act.put, List.setIfInBounds_toArray, List.set_cons_zero, List.set_cons_succ])
                refine wpAnyH_ready (rs := [4]) (by kernel_rfl) (by simp) ?_
                refine AllReadyH.cons (o := ⟨_, _, _, _, _, _⟩) rfl (fun K hK => ?_) AllReadyH.nil
                go_simp
                refine (make_mag false _ r1 h1 h1' (by omega)).mono ?_
                rintro e u2 ⟨t2, B2, m2, e2, rfl, j2, d2⟩
                replace hS := bthen hS d2
                (replace rb22 := rb22.call d2); (replace r1 := r1.call d2); (replace pz6 := pz6.call d2)
                first | (with_reducible refine hK.out _ _ hS (fun _ => ?_)) | (go_wp2_with fail; with_reducible refine hK.out _ _ hS (fun _ => ?_))
                clear hK K
                (try simp only [Act.put, List.setIfInBounds_toArray, List.set_cons_zero, List.set_cons_succ])
                refine wpAnyH_ready (rs := [5]) (by kernel_rfl) (by simp) ?_
                refine AllReadyH.cons (o := ⟨_, _, _, _, _, _⟩) rfl (fun K hK => ?_) AllReadyH.nil
                go_simp
                refine (refAdd_any _ (i4.call hS).any j2.any (by omega) (Nat.le_trans (j2.len lj.out) (by omega))).mono ?_
                rintro e u3 ⟨t3, B3, m3, e3, rfl, j3, d3⟩
                replace hS := bthen hS d3
                (replace rb22 := rb22.call d3); (replace r1 := r1.call d3); (replace j2 := j2.call d3); (replace pz6 := pz6.call d3)
                first | (with_reducible refine hK.out _ _ hS (fun _ => ?_)) | (go_wp2_with fail; with_reducible refine hK.out _ _ hS (fun _ => ?_))
                clear hK K
                (try simp only [Act.put, List.setIfInBounds_toArray, List.set_cons_zero, List.set_cons_succ])
                refine wpAnyH_ready (rs := [7]) (by kernel_rfl) (by simp) ?_
                refine AllReadyH.cons (o := ⟨_, _, _, _, _, _⟩) rfl (fun K hK => ?_) AllReadyH.nil
                obtain ⟨q0, q1, f0, f1, k0, k1⟩ := pz6.all (.bool t3) (.slice B3 m3 e3)
                go_simp
                replace hS := below_stored hS hz6 (.bool t3) (.slice B3 m3 e3)
                refine hK.out _ _ hS (fun _ => ?_)
                clear hK K q0 q1 f0 f1 k0 k1
                replace rb22 := rb22.stored pz6 (.bool t3) (.slice B3 m3 e3)
                replace r1 := r1.stored pz6 (.bool t3) (.slice B3 m3 e3)
                replace j2 := j2.stored pz6 (.bool t3) (.slice B3 m3 e3)
                replace j3 := j3.stored pz6 (.bool t3) (.slice B3 m3 e3)
                replace pz6 := pz6.stored (s' := t3) (A' := B3) (n' := m3) (c' := e3)
                (try simp only [Act.put, List.setIfInBounds_toArray, List.set_cons_zero, List.set_cons_succ])
                refine wpAnyH_done (by kernel_rfl) ?_ _
                go_wp2_with fail
                go_meet
                case rel => exact ⟨_, _, _, _, _, rfl, pz6, j3, hS, hz6⟩
            · go_simp
              have pz6 := Pr.new u0b22 false none 0 0
              have az := bone u0b22 (.cells #[.bool false, .slice none 0 0] 24)
              have hz6 := hS.size
              replace hS := bthen hS az
              (replace rb22 := rb22.call az)
              refine hK.out _ _ hS (fun _ => ?_)
              clear hK K az
              generalize hgz : u0b22.heap.size = gz6 at hz6 pz6 ⊢
              clear hgz
              generalize u0b22.alloc (.cells #[.bool false, .slice none 0 0] 24) = u0b22z6 at *
              (try simp only [Act.put, List.setIfInBounds_toArray, List.set_cons_zero, List.set_cons_succ])
              refine wpAnyH_ready (rs := [3]) (by kernel_rfl) (by simp) ?_
              refine AllReadyH.cons (o := ⟨_, _, _, _, _, _⟩) rfl (fun K hK => ?_) AllReadyH.nil
              go_simp
              refine (HS.out _ _ _ rb22).mono ?_
              rintro e u1 ⟨B1, m1, e1, rfl, r1, h1, h1', d1⟩
              replace hS := bthen hS d1
              (replace rb22 := rb22.call d1); (replace pz6 := pz6.call d1)
              first | (with_reducible refine hK.out _ _ hS (fun _ => ?_)) | (go_wp2_with fail; with_reducible refine hK.out _ _ hS (fun _ => ?_))
              clear hK K
              have lm1 := r1.len; rw [lm1] at HJ
              (try simp only [Act.put, List.setIfInBounds_toArray, List.set_cons_zero, List.set_cons_succ])
              refine wpAnyH_ready (rs := [4]) (by kernel_rfl) (by simp) ?_
              refine AllReadyH.cons (o := ⟨_, _, _, _, _, _⟩) rfl (fun K hK => ?_) AllReadyH.nil
              go_simp
              refine (make_mag false _ r1 h1 h1' (by omega)).mono ?_
              rintro e u2 ⟨t2, B2, m2, e2, rfl, j2, d2⟩
              replace hS := bthen hS d2
              (replace rb22 := rb22.call d2); (replace r1 := r1.call d2); (replace pz6 := pz6.call d2)
              first | (with_reducible refine hK.out _ _ hS (fun _ => ?_)) | (go_wp2_with fail; with_reducible refine hK.out _ _ hS (fun _ => ?_))
              clear hK K
              (try simp only [Act.put, List.setIfInBounds_toArray, List.set_cons_zero, List.set_cons_succ])
              refine wpAnyH_ready (rs := [5]) (by kernel_rfl) (by simp) ?_
              refine AllReadyH.cons (o := ⟨_, _, _, _, _, _⟩) rfl (fun K hK => ?_) AllReadyH.nil
              go_simp
              refine (refAdd_any _ (i4.call hS).any j2.any (by omega) (Nat.le_trans (j2.len lj.out) (by omega))).mono ?_
              rintro e u3 ⟨t3, B3, m3, e3, rfl, j3, d3⟩
              replace hS := bthen hS d3
              (replace rb22 := rb22.call d3); (replace r1 := r1.call d3); (replace j2 := j2.call d3); (replace pz6 := pz6.call d3)
              first | (with_reducible refine hK.out _ _ hS (fun _ => ?_)) | (go_wp2_with fail; with_reducible refine hK.out _ _ hS (fun _ => ?_))
              clear hK K
              (try simp only [Act.put, List.setIfInBounds_toArray, List.set_cons_zero, List.set_cons_succ])
              refine wpAnyH_ready (rs := [7]) (by kernel_rfl) (by simp) ?_
              refine AllReadyH.cons (o := ⟨_, _, _, _, _, _⟩) rfl (fun K hK => ?_) AllReadyH.nil
              obtain ⟨q0, q1, f0, f1, k0, k1⟩ := pz6.all (.bool t3) (.slice B3 m3 e3)
              go_simp
              replace hS := below_stored hS hz6 (.bool t3) (.slice B3 m3 e3)
              refine hK.out _ _ hS (fun _ => ?_)
              clear hK K q0 q1 f0 f1 k0 k1
              replace rb22 := rb22.stored pz6 (.bool t3) (.slice B3 m3 e3)
              replace r1 := r1.stored pz6 (.bool t3) (.slice B3 m3 e3)
              replace j2 := j2.stored pz6 (.bool t3) (.slice B3 m3 e3)
              replace j3 := j3.stored pz6 (.bool t3) (.slice B3 m3 e3)
              replace pz6 := pz6.stored (s' := t3) (A' := B3) (n' := m3) (c' := e3)
              (try simp only [Act.put, List.setIfInBounds_toArray, List.set_cons_zero, List.set_cons_succ])
              refine wpAnyH_done (by kernel_rfl) ?_ _
              go_wp2_with fail
              go_meet
              case rel => exact ⟨_, _, _, _, _, rfl, pz6, j3, hS, hz6⟩
          · go_simp
            have pz6 := Pr.new u0 false none 0 0
            have az := bone u0 (.cells #[.bool false, .slice none 0 0] 24)
            have hz6 := hS.size
            replace hS := bthen hS az
            refine hK.out _ _ hS (fun _ => ?_)
            clear hK K az
            generalize hgz : u0.heap.size = gz6 at hz6 pz6 ⊢
            clear hgz
            generalize u0.alloc (.cells #[.bool false, .slice none 0 0] 24) = u0z6 at *
            (try simp only [Act.put, List.setIfInBounds_toArray, List.set_cons_zero, List.set_cons_succ])
            refine wpAnyH_ready (rs := [1]) (by kernel_rfl) (by simp) ?_
            refine AllReadyH.cons (o := ⟨_, _, _, _, _, _⟩) rfl (fun K hK => ?_) AllReadyH.nil
            go_simp
            have rb22 := one_word u0z6 1 54
            have az := bone u0z6 (.cells #[.int .u32 1] 54)
            replace hS := bthen hS az
            (replace pz6 := pz6.call az)
            refine hK.out _ _ hS (fun _ => ?_)
            clear hK K az
            generalize hgz : u0z6.heap.size = gb22 at rb22 ⊢
            clear hgz
            generalize u0z6.alloc (.cells #[.int .u32 1] 54) = u0z6b22 at *
            (try simp only [Act.put, List.setIfInBounds_toArray, List.set_cons_zero, List.set_cons_succ])
            refine wpAnyH_ready (rs := [3]) (by kernel_rfl) (by simp) ?_
            refine AllReadyH.cons (o := ⟨_, _, _, _, _, _⟩) rfl (fun K hK => ?_) AllReadyH.nil
            go_simp
            refine (HS.out _ _ _ rb22).mono ?_
            rintro e u1 ⟨B1, m1, e1, rfl, r1, h1, h1', d1⟩
            replace hS := bthen hS d1
            (replace rb22 := rb22.call d1); (replace pz6 := pz6.call d1)
            first | (with_reducible refine hK.out _ _ hS (fun _ => ?_)) | (go_wp2_with fail; with_reducible refine hK.out _ _ hS (fun _ => ?_))
            clear hK K
            have lm1 := r1.len; rw [lm1] at HJ
            (try simp only [Act.put, List.setIfInBounds_toArray, List.set_cons_zero, List.set_cons_succ])
            refine wpAnyH_ready (rs := [4]) (by kernel_rfl) (by simp) ?_
            refine AllReadyH.cons (o := ⟨_, _, _, _, _, _⟩) rfl (fun K hK => ?_) AllReadyH.nil
            go_simp
            refine (make_mag false _ r1 h1 h1' (by omega)).mono ?_
            rintro e u2 ⟨t2, B2, m2, e2, rfl, j2, d2⟩
            replace hS := bthen hS d2
            (replace rb22 := rb22.call d2); (replace r1 := r1.call d2); (replace pz6 := pz6.call d2)
            first | (with_reducible refine hK.out _ _ hS (fun _ => ?_)) | (go_wp2_with fail; with_reducible refine hK.out _ _ hS (fun _ => ?_))
            clear hK K
            (try simp only [Act.put, List.setIfInBounds_toArray, List.set_cons_zero, List.set_cons_succ])
            refine wpAnyH_ready (rs := [5]) (by kernel_rfl) (by simp) ?_
            refine AllReadyH.cons (o := ⟨_, _, _, _, _, _⟩) rfl (fun K hK => ?_) AllReadyH.nil
            go_simp
            refine (refAdd_any _ (i4.call hS).any j2.any (by omega) (Nat.le_trans (j2.len lj.out) (by omega))).mono ?_
            rintro e u3 ⟨t3, B3, m3, e3, rfl, j3, d3⟩
            replace hS := bthen hS d3
            (replace rb22 := rb22.call d3); (replace r1 := r1.call d3); (replace j2 := j2.call d3); (replace pz6 := pz6.call d3)
            first | (with_reducible refine hK.out _ _ hS (fun _ => ?_)) | (go_wp2_with fail; with_reducible refine hK.out _ _ hS (fun _ => ?_))
            clear hK K
            (try simp only [Act.put, List.setIfInBounds_toArray, List.set_cons_zero, List.set_cons_succ])
            refine wpAnyH_ready (rs := [7]) (by kernel_rfl) (by simp) ?_
            refine AllReadyH.cons (o := ⟨_, _, _, _, _, _⟩) rfl (fun K hK => ?_) AllReadyH.nil
            obtain ⟨q0, q1, f0, f1, k0, k1⟩ := pz6.all (.bool t3) (.slice B3 m3 e3)
            go_simp
            replace hS := below_stored hS hz6 (.bool t3) (.slice B3 m3 e3)
            refine hK.out _ _ hS (fun _ => ?_)
            clear hK K q0 q1 f0 f1 k0 k1
            replace rb22 := rb22.stored pz6 (.bool t3) (.slice B3 m3 e3)
            replace r1 := r1.stored pz6 (.bool t3) (.slice B3 m3 e3)
            replace j2 := j2.stored pz6 (.bool t3) (.slice B3 m3 e3)
            replace j3 := j3.stored pz6 (.bool t3) (.slice B3 m3 e3)
            replace pz6 := pz6.stored (s' := t3) (A' := B3) (n' := m3) (c' := e3)
            (try simp only [Act.put, List.setIfInBounds_toArray, List.set_cons_zero, List.set_cons_succ])
            refine wpAnyH_done (by kernel_rfl) ?_ _
            go_wp2_with fail
            go_meet
            case rel => exact ⟨_, _, _, _, _, rfl, pz6, j3, hS, hz6⟩
        case rest =>
          obtain ⟨g6, s6, A6, n6, c6, rfl, p6, i6, d6, hg6⟩ := hcut
          obtain ⟨X6, rfl⟩ : ∃ X : World, X = wc := ⟨_, rfl⟩
          have z4 := p4.lt
          (replace p4 := p4.call d6); (replace i4 := i4.call d6); (replace pa := pa.call d6); (replace ia := ia.call d6); (replace pr := pr.call d6)
          replace bR := bthen bR d6
          have l6 := i6.len LT.out
          have LM := Lib.hid (Lim.mul LT.out LT.out)
          clear d6 HS
          have HT2 : Hid (∀ W k, Below X6.heap.size X6 W → SqC a r P k j → SqR w W g4 A1 n1 c1 a j ∨ k ≤ 0) := fun W k hW hk => by
            by_cases h0 : k ≤ 0
            · exact .inr h0
            · exact .inl ⟨r, _, _, _, _, HLV.out (hk.2 (by omega)), p4.call hW, i4.call hW, pa.call hW, ia.call hW, pr.call hW, bthen bR hW⟩
          obtain ⟨k, hk⟩ : ∃ k, cmpz (((r : Int) + (P : Int)) * ((r : Int) + (P : Int))) (a : Int) = k := ⟨_, rfl⟩
          have HK : Hid (SqC a r P k j) := SqC.of hk
          have HC : Hid (∀ (W : World) s A n c, CInt W s A n c (((r : Int) + (P : Int)) * ((r : Int) + (P : Int))) → n ≤ 4194304 → CInt W false A1 n1 c1 (a : Int) → Calls Tryd.prog 32 #[.agg #[.bool s, .slice A n c], .agg #[.bool false, .slice A1 n1 c1]] W (RetV W (.int .i64 k))) := fun W s A n c h hl h' => by
            rw [← hk]; exact refCompare_any W h.any h'.any (by omega) (by omega)
          clear hk
          by_cases h0 : k ≤ 0
          · have hd0 : decide (k ≤ 0) = true := by simpa using h0
            go_upto_region 9 with (fail)
            go_cut [32] (fun v wz => v = .bool true ∧ Below X6.heap.size X6 wz)
            case first =>
              refine wp_region_held_drew (S := fun w' => Below X6.heap.size X6 w') (by kernel_rfl) (bdrew X6) (fun _ => ?_)
              have hS : Below X6.heap.size X6 X6.drew := bdrew X6
              generalize X6.drew = u0 at hS ⊢
              refine wpAnyH_take (i := 0) (oi := ⟨_, _, _, _, _, _⟩) (v := ?_) rfl (by kernel_rfl) (by kernel_rfl) (by kernel_rfl) (fun _ _ _ h => h) (Or.inl ⟨by rfl, ?_⟩) hS ?_
              rotate_left
              · intro w' hS'; have p' := p6.call hS'; have c0 := p'.cell0; have c1 := p'.cell1; (first | (go_simp; done) | (go_simp; with_reducible rfl) | with_reducible rfl)
              (try simp only [Act.put, List.setIfInBounds_toArray, List.set_cons_zero, List.set_cons_succ])
              refine wpAnyH_take (i := 1) (oi := ⟨_, _, _, _, _, _⟩) (v := ?_) rfl (by kernel_rfl) (by kernel_rfl) (by kernel_rfl) (fun _ _ _ h => h) (Or.inl ⟨by rfl, ?_⟩) hS ?_
              rotate_left
              · intro w' hS'; have p' := p6.call hS'; have c0 := p'.cell0; have c1 := p'.cell1; (first | (go_simp; done) | (go_simp; with_reducible rfl) | with_reducible rfl)
              (try simp only [Act.put, List.setIfInBounds_toArray, List.set_cons_zero, List.set_cons_succ])
              refine wpAnyH_take (i := 3) (oi := ⟨_, _, _, _, _, _⟩) (v := ?_) rfl (by kernel_rfl) (by kernel_rfl) (by kernel_rfl) (fun _ _ _ h => h) (Or.inl ⟨by rfl, ?_⟩) hS ?_
              rotate_left
              · intro w' hS'; have p' := pa.call hS'; have c0 := p'.cell0; have c1 := p'.cell1; (first | (go_simp; done) | (go_simp; with_reducible rfl) | with_reducible rfl)
              (try simp only [Act.put, List.setIfInBounds_toArray, List.set_cons_zero, List.set_cons_succ])
              refine wpAnyH_ready (rs := [2]) (by kernel_rfl) (by simp) ?_
              refine AllReadyH.cons (o := ⟨_, _, _, _, _, _⟩) rfl (fun K hK => ?_) AllReadyH.nil
              go_simp
              refine (refMul_any _ (i6.call hS).any (i6.call hS).any (by omega) (by omega)).mono ?_
              rintro e u1 ⟨t1, B1, m1, e1, rfl, j1, d1⟩
              replace hS := bthen hS d1
              first | (with_reducible refine hK.out _ _ hS (fun _ => ?_)) | (go_wp2_with fail; with_reducible refine hK.out _ _ hS (fun _ => ?_))
              clear hK K
              (try simp only [Act.put, List.setIfInBounds_toArray, List.set_cons_zero, List.set_cons_succ])
              refine wpAnyH_ready (rs := [4]) (by kernel_rfl) (by simp) ?_
              refine AllReadyH.cons (o := ⟨_, _, _, _, _, _⟩) rfl (fun K hK => ?_) AllReadyH.nil
              go_simp
              refine (HC.out _ _ _ _ _ j1 (Nat.le_trans (j1.len LM.out) (by omega)) (ia.call hS)).mono ?_
              rintro e u2 ⟨rfl, d2⟩
              replace hS := bthen hS d2
              (replace j1 := j1.call d2)
              first | (with_reducible refine hK.out _ _ hS (fun _ => ?_)) | (go_wp2_with fail; with_reducible refine hK.out _ _ hS (fun _ => ?_))
              clear hK K
              (try simp only [Act.put, List.setIfInBounds_toArray, List.set_cons_zero, List.set_cons_succ])
              refine wpAnyH_take (i := 5) (oi := ⟨_, _, _, _, _, _⟩) (v := ?_) rfl (by kernel_rfl) (by kernel_rfl) (by kernel_rfl) (fun _ _ _ h => h) (Or.inl ⟨by rfl, ?_⟩) hS ?_
              rotate_left
              · intro w' hS'; (first | (go_simp; done) | (go_simp; with_reducible rfl) | with_reducible rfl)
              (try simp only [Act.put, List.setIfInBounds_toArray, List.set_cons_zero, List.set_cons_succ])
              refine wpAnyH_done (by kernel_rfl) ?_ _
              go_wp2_with fail
              go_meet
              case rel => exact ⟨rfl, hS⟩
            case rest =>
              obtain ⟨rfl, d9⟩ := hcut
              obtain ⟨X9, rfl⟩ : ∃ X : World, X = wc := ⟨_, rfl⟩
              have z6 := p6.lt
              (replace p4 := p4.call d9); (replace p6 := p6.call d9); (replace i6 := i6.call d9); (replace pa := pa.call d9); (replace ia := ia.call d9); (replace pr := pr.call d9)
              replace bR := bthen bR d9
              obtain ⟨a0, a1⟩ := p6.cells1
              obtain ⟨q0, q1, f0, f1, k0, k1⟩ := p4.all (.bool s6) (.slice A6 n6 c6)
              have HE2 : Hid (SqR w ((X9.setCell ⟨g4, 0, none⟩ (.bool s6)).setCell ⟨g4, 1, none⟩ (.slice A6 n6 c6)) g4 A1 n1 c1 a j) :=
                ⟨r + P, _, _, _, _, HT.out (HK.out.1 h0), p4.stored, by rw [Int.natCast_add]; exact i6.stored p4 _ _, pa.far (by omega) _ _, ia.stored p4 _ _, pr.far (by omega) _ _, below_stored bR (by omega) _ _⟩
              clear HT HLV HT2 HK HC
              go_wp2_with fail
              go_roundg j
              case rel => exact ⟨by go_num, by omega, HE2⟩
              case measure => omega
          · have hd0 : decide (k ≤ 0) = false := by simpa using h0
            go_upto_region 9 with (fail)
            go_cut [32] (fun v wz => v = .bool false ∧ Below X6.heap.size X6 wz)
            case first =>
              refine wp_region_held_drew (S := fun w' => Below X6.heap.size X6 w') (by kernel_rfl) (bdrew X6) (fun _ => ?_)
              have hS : Below X6.heap.size X6 X6.drew := bdrew X6
              generalize X6.drew = u0 at hS ⊢
              refine wpAnyH_take (i := 0) (oi := ⟨_, _, _, _, _, _⟩) (v := ?_) rfl (by kernel_rfl) (by kernel_rfl) (by kernel_rfl) (fun _ _ _ h => h) (Or.inl ⟨by rfl, ?_⟩) hS ?_
              rotate_left
              · intro w' hS'; have p' := p6.call hS'; have c0 := p'.cell0; have c1 := p'.cell1; (first | (go_simp; done) | (go_simp; with_reducible rfl) | with_reducible rfl)
              (try simp only [Act.put, List.setIfInBounds_toArray, List.set_cons_zero, List.set_cons_succ])
              refine wpAnyH_take (i := 1) (oi := ⟨_, _, _, _, _, _⟩) (v := ?_) rfl (by kernel_rfl) (by kernel_rfl) (by kernel_rfl) (fun _ _ _ h => h) (Or.inl ⟨by rfl, ?_⟩) hS ?_
              rotate_left
              · intro w' hS'; have p' := p6.call hS'; have c0 := p'.cell0; have c1 := p'.cell1; (first | (go_simp; done) | (go_simp; with_reducible rfl) | with_reducible rfl)
              (try simp only [Act.put, List.setIfInBounds_toArray, List.set_cons_zero, List.set_cons_succ])
              refine wpAnyH_take (i := 3) (oi := ⟨_, _, _, _, _, _⟩) (v := ?_) rfl (by kernel_rfl) (by kernel_rfl) (by kernel_rfl) (fun _ _ _ h => h) (Or.inl ⟨by rfl, ?_⟩) hS ?_
              rotate_left
              · intro w' hS'; have p' := pa.call hS'; have c0 := p'.cell0; have c1 := p'.cell1; (first | (go_simp; done) | (go_simp; with_reducible rfl) | with_reducible rfl)
              (try simp only [Act.put, List.setIfInBounds_toArray, List.set_cons_zero, List.set_cons_succ])
              refine wpAnyH_ready (rs := [2]) (by kernel_rfl) (by simp) ?_
              refine AllReadyH.cons (o := ⟨_, _, _, _, _, _⟩) rfl (fun K hK => ?_) AllReadyH.nil
              go_simp
              refine (refMul_any _ (i6.call hS).any (i6.call hS).any (by omega) (by omega)).mono ?_
              rintro e u1 ⟨t1, B1, m1, e1, rfl, j1, d1⟩
              replace hS := bthen hS d1
              first | (with_reducible refine hK.out _ _ hS (fun _ => ?_)) | (go_wp2_with fail; with_reducible refine hK.out _ _ hS (fun _ => ?_))
              clear hK K
              (try simp only [Act.put, List.setIfInBounds_toArray, List.set_cons_zero, List.set_cons_succ])
              refine wpAnyH_ready (rs := [4]) (by kernel_rfl) (by simp) ?_
              refine AllReadyH.cons (o := ⟨_, _, _, _, _, _⟩) rfl (fun K hK => ?_) AllReadyH.nil
              go_simp
              refine (HC.out _ _ _ _ _ j1 (Nat.le_trans (j1.len LM.out) (by omega)) (ia.call hS)).mono ?_
              rintro e u2 ⟨rfl, d2⟩
              replace hS := bthen hS d2
              (replace j1 := j1.call d2)
              first | (with_reducible refine hK.out _ _ hS (fun _ => ?_)) | (go_wp2_with fail; with_reducible refine hK.out _ _ hS (fun _ => ?_))
              clear hK K
              (try simp only [Act.put, List.setIfInBounds_toArray, List.set_cons_zero, List.set_cons_succ])
              refine wpAnyH_take (i := 5) (oi := ⟨_, _, _, _, _, _⟩) (v := ?_) rfl (by kernel_rfl) (by kernel_rfl) (by kernel_rfl) (fun _ _ _ h => h) (Or.inl ⟨by rfl, ?_⟩) hS ?_
              rotate_left
              · intro w' hS'; (first | (go_simp; done) | (go_simp; with_reducible rfl) | with_reducible rfl)
              (try simp only [Act.put, List.setIfInBounds_toArray, List.set_cons_zero, List.set_cons_succ])
              refine wpAnyH_done (by kernel_rfl) ?_ _
              go_wp2_with fail
              go_meet
              case rel => exact ⟨rfl, hS⟩
            case rest =>
              obtain ⟨rfl, d9⟩ := hcut
              obtain ⟨X9, rfl⟩ : ∃ X : World, X = wc := ⟨_, rfl⟩
              have HE2 : Hid (SqR w X9 g4 A1 n1 c1 a j) := (HT2.out X9 k d9 HK.out).resolve_right h0
              clear HT HLV HT2 HK HC
              go_wp2_with fail
              go_roundg j
              case rel => exact ⟨by go_num, by omega, HE2⟩
              case measure => omega
end Go.Proofs.YteicjbinginamaaDoor
