/- Walk of IntegerTexts. -/
import Derived.Test.YteicjbinginamaaDoorRefParse
import Derived.Test.YteicjbinginamaaDoorRefFormat
import Derived.Test.YteicjbinginamaaDoorLawKit
import Derived.Test.YteicjbinginamaaDoorRefD
import Derived.Test.YteicjbinginamaaDoorOrders
namespace Go.Proofs.YteicjbinginamaaDoor
open Go.RowKit
set_option linter.unusedVariables false

theorem decz_lt256 (s : Bool) (n : Nat) : ∀ c ∈ decz s n, c < 256 := by
  intro c hc
  unfold decz at hc
  rcases List.mem_append.1 hc with h | h
  · split at h <;> simp at h; omega
  · exact dec_lt256 n c h
theorem decz_len (s : Bool) (n k : Nat) (h : (digits n).length ≤ k) : (decz s n).length ≤ 18 * k + 2 := by
  by_cases h0 : n = 0
  · subst h0; rw [decz_zero]; simp
  · have := dec_len18 n h0
    unfold decz
    rw [List.length_append]
    split <;> simp <;> omega
theorem text_PA (s : Bool) {x : Int} {ds : List Nat} (hx : x = sgn s (val ds)) : PA (bytesOf (strOf (decz s x.natAbs))) (if (decz s x.natAbs).length ≤ 400 then x else 0) (if (decz s x.natAbs).length ≤ 400 then 0 else 10) := by
  rw [bytesOf_strOf _ (decz_lt256 _ _)]
  by_cases h : (decz s x.natAbs).length ≤ 400
  · rw [if_pos h, if_pos h]
    have := PA_decz s x.natAbs h
    have e : sgn s x.natAbs = x := by rw [hx]; unfold sgn; cases s <;> simp
    rwa [e] at this
  · rw [if_neg h, if_neg h]
    exact PA_decz_long _ _ (by omega)

set_option maxHeartbeats 4000000 in
set_option maxRecDepth 100000 in
theorem law_IntegerTexts {s : Bool} {A : Option Addr} {n c : Nat} {x : Int} (w : World) (ha : AInt w s A n c x) (hn : n ≤ 35184372087808) (b : ByteArray) (hb : b.size ≤ maxLen) (ht : Tab w) :
    Calls Tryd.prog 5 #[.agg #[.bool s, .slice A n c], .string b] w (RetV w (.bool true)) := by
  unfold maxLen at hb
  obtain ⟨W, hW⟩ : ∃ W, W = w.alloc (.cells #[.bool s, .slice A n c] 24) := ⟨_, rfl⟩
  have bW : Below w.heap.size w W := by rw [hW]; exact bone w _
  have pa : Pr W w.heap.size s A n c := by rw [hW]; exact Pr.new w s A n c
  have a0 := pa.cell0
  have a1 := pa.cell1
  have HL := Lib.hid (light1 (s := s) (A := A) (n := n) (c := c) W hn)
  have hsz : W.heap.size = w.heap.size + 1 := by rw [hW]; simp
  obtain ⟨W2, hW2⟩ : ∃ W2, W2 = W.alloc (.cells #[.bool s, .slice A n c] 24) := ⟨_, rfl⟩
  have b2 : Below W.heap.size W W2 := by rw [hW2]; exact bone _ _
  rw [← hW2, hsz] at HL
  go_enter Tryd.func5, Tryd.ntmps5
  go_wp2_with fail
  rw [← hW]
  go_wp2_with fail
  rw [← hW2]
  refine HL.out.mono ?_
  rintro e X ⟨rfl, b3⟩
  replace b2 := bthen b2 b3
  (replace pa := pa.call b2)
  replace bW := bthen bW b2
  (replace ha := ha.call bW); (replace ht := ht.call bW)
  clear HL b3 b2 hW hW2 hsz a0 a1
  obtain ⟨a0, a1⟩ := pa.cells1
  by_cases hl : n ≤ 60
  case neg =>
    have hd : decide (n ≤ 60) = false := by simp; omega
    have H2 := Lib.hid (awake_any X ht)
    go_wp2_with fail
    refine H2.out.mono ?_
    rintro e X2 ⟨rfl, b5⟩
    go_wp2
    go_ret
    exact ⟨rfl, bthen bW b5⟩
  case pos =>
    have hd : decide (n ≤ 60) = true := by simp; omega
    by_cases hl8 : b.size ≤ 1000
    case neg =>
      have hd8 : decide ((1000 : Int) < (b.size : Int)) = true := decide_eq_true (by omega)
      have hd8' : decide (1000 < b.size) = true := decide_eq_true (by omega)
      have H2 := Lib.hid (awake_any X ht)
      go_wp2_with fail
      refine H2.out.mono ?_
      rintro e X2 ⟨rfl, b5⟩
      go_wp2
      go_ret
      exact ⟨rfl, bthen bW b5⟩
    case pos =>
      have hd8 : decide ((1000 : Int) < (b.size : Int)) = false := decide_eq_false (by omega)
      have hd8' : decide (1000 < b.size) = false := decide_eq_false (by omega)
      have H1 := format_any X ha (by omega) ht
      have HRF := Lib.hid (fun W h => refFormat_any (s := s) (A := A) (n := n) (c := c) (x := x) W h (by omega))
      have HCA := Lib.hid (fun W h => canon_any (s := s) (A := A) (n := n) (c := c) (x := x) W h (by omega))
      obtain ⟨ds, hds1, hds2, _, _, hx⟩ := ha
      have hP := text_PA s hx
      have hTL : (decz s x.natAbs).length ≤ 1082 := by
        refine decz_len s x.natAbs 60 ?_
        have e : x.natAbs = val ds := by rw [hx]; unfold sgn; cases s <;> simp
        rw [e]
        have := digits_len_le (val_lt hds2)
        rw [hds1.len] at this
        omega
      replace ha : AInt X s A n c x := ⟨ds, hds1, hds2, by assumption, by assumption, hx⟩
      clear hds1 hds2 hx
      have hTs := strOf_size (decz s x.natAbs)
      obtain ⟨zb, cb, hPB⟩ := PA_ex (bytesOf b)
      obtain ⟨T, hTT⟩ : ∃ T, strOf (decz s x.natAbs) = T := ⟨_, rfl⟩
      rw [hTT] at hP hTs H1
      replace H1 := Lib.hid H1
      have HTT := Lib.hid hTT
      clear hTT
      by_cases h400 : (decz s x.natAbs).length ≤ 400
      · rw [if_pos h400, if_pos h400] at hP
        have hq : decide ((400 : Int) < (T.size : Int)) = false := decide_eq_false (by omega)
        have hq' : decide (400 < T.size) = false := decide_eq_false (by omega)
        have HP1 := Lib.hid (fun W => parse_any T W hP (by omega))
        have HP2 := Lib.hid (fun W => parse_any b W hPB (by omega))
        have HP3 := Lib.hid (fun W => refParse_any b W hPB (by omega))
        have HTS := Lib.hid hTs
        have bne0 : (T.toList != T.toList) = false := bne_self_eq_false _
        have bne1 : (cb != cb) = false := bne_self_eq_false _
        clear hP hPB hTs h400 hTL
        go_upto_region 3 with (fail)
        go_wp2_with fail
        refine H1.out.mono ?_
        rintro e X0 ⟨rfl, d0⟩
        replace bW := bthen bW d0
        (replace pa := pa.call d0); (replace ha := ha.call d0); (replace ht := ht.call d0)
        clear H1 d0 a0 a1
        go_wp2_with fail
        refine (HP1.out _).mono ?_
        rintro e X1 ⟨s1, A1, n1, c1, rfl, i1, d1⟩
        clear HP1
        obtain ⟨X2, hX2⟩ : ∃ Y, Y = X1.alloc (.cells #[.bool s1, .slice A1 n1 c1] 24) := ⟨_, rfl⟩
        have db : Below X1.heap.size X1 X2 := by rw [hX2]; exact bone _ _
        have p6 : Pr X2 X1.heap.size s1 A1 n1 c1 := by rw [hX2]; exact Pr.new _ _ _ _ _
        (replace pa := pa.call d1); (replace ha := ha.call d1); (replace ht := ht.call d1)
        (replace pa := pa.call db); (replace ha := ha.call db); (replace ht := ht.call db); (replace i1 := i1.call db)
        replace bW := bthen (bthen bW d1) db
        clear db d1
        go_upto_region 5 with (fail)
        rw [← hX2]
        clear hX2
        generalize X1.heap.size = gp6 at *
        go_wp2_with fail
        refine (HP2.out _).mono ?_
        rintro e X3 ⟨s3, A3, n3, c3, rfl, i3, d3⟩
        clear HP2
        obtain ⟨X4, hX4⟩ : ∃ Y, Y = X3.alloc (.cells #[.bool s3, .slice A3 n3 c3] 24) := ⟨_, rfl⟩
        have db : Below X3.heap.size X3 X4 := by rw [hX4]; exact bone _ _
        have p8 : Pr X4 X3.heap.size s3 A3 n3 c3 := by rw [hX4]; exact Pr.new _ _ _ _ _
        (replace pa := pa.call d3); (replace ha := ha.call d3); (replace ht := ht.call d3); (replace p6 := p6.call d3); (replace i1 := i1.call d3)
        (replace pa := pa.call db); (replace ha := ha.call db); (replace ht := ht.call db); (replace p6 := p6.call db); (replace i1 := i1.call db); (replace i3 := i3.call db)
        replace bW := bthen (bthen bW d3) db
        clear db d3
        go_upto_region 6 with (fail)
        rw [← hX4]
        clear hX4
        generalize X3.heap.size = gp8 at *
        go_wp2_with fail
        refine (HP3.out _).mono ?_
        rintro e X5 ⟨s5, A5, n5, c5, rfl, i5, d5⟩
        clear HP3
        obtain ⟨X6, hX6⟩ : ∃ Y, Y = X5.alloc (.cells #[.bool s5, .slice A5 n5 c5] 24) := ⟨_, rfl⟩
        have db : Below X5.heap.size X5 X6 := by rw [hX6]; exact bone _ _
        have p10 : Pr X6 X5.heap.size s5 A5 n5 c5 := by rw [hX6]; exact Pr.new _ _ _ _ _
        (replace pa := pa.call d5); (replace ha := ha.call d5); (replace ht := ht.call d5); (replace p6 := p6.call d5); (replace i1 := i1.call d5); (replace p8 := p8.call d5); (replace i3 := i3.call d5)
        (replace pa := pa.call db); (replace ha := ha.call db); (replace ht := ht.call db); (replace p6 := p6.call db); (replace i1 := i1.call db); (replace p8 := p8.call db); (replace i3 := i3.call db); (replace i5 := i5.call db)
        replace bW := bthen (bthen bW d5) db
        clear db d5
        go_upto_region 7 with (fail)
        rw [← hX6]
        clear hX6
        generalize X5.heap.size = gp10 at *
        obtain ⟨a0, a1⟩ := pa.cells1
        go_wp2_with fail
        refine (HRF.out _ ha).mono ?_
        rintro e X7 ⟨he, d7⟩
        rw [HTT.out] at he
        subst he
        (replace pa := pa.call d7); (replace ha := ha.call d7); (replace ht := ht.call d7); (replace p6 := p6.call d7); (replace i1 := i1.call d7); (replace p8 := p8.call d7); (replace i3 := i3.call d7); (replace p10 := p10.call d7); (replace i5 := i5.call d7)
        replace bW := bthen bW d7
        clear HRF d7 a0 a1
        obtain ⟨m0, m1⟩ := p8.cells1
        obtain ⟨l0, l1⟩ := p10.cells1
        have HSA := Lib.hid (same_true _ i3 i5 rfl)
        go_wp2_with fail
        refine HSA.out.mono ?_
        rintro e X8 ⟨rfl, d8⟩
        (replace pa := pa.call d8); (replace ha := ha.call d8); (replace ht := ht.call d8); (replace p6 := p6.call d8); (replace i1 := i1.call d8)
        replace bW := bthen bW d8
        clear HSA d8 m0 m1 l0 l1 p8 p10 i3 i5
        go_upto_region 9 with (fail)
        refine wp_region_held_drew (S := fun w' => Below X8.heap.size X8 w') (by kernel_rfl) (bdrew X8) (fun hS => ?_)
        have hS : Below X8.heap.size X8 X8.drew := bdrew X8
        generalize X8.drew = u0 at hS ⊢
        refine wpAnyH_take (i := 0) (oi := ⟨_, _, _, _, _, _⟩) (v := ?_) rfl (by kernel_rfl) (by kernel_rfl) (by kernel_rfl) (fun _ _ _ h => h) (Or.inl ⟨by rfl, ?_⟩) hS ?_
        rotate_left
        · intro w' hS'; (first | (go_simp; done) | (go_simp; with_reducible rfl) | with_reducible rfl)
        (try simp only [Act.put, List.setIfInBounds_toArray, List.set_cons_zero, List.set_cons_succ])
        refine wpAnyH_take (i := 1) (oi := ⟨_, _, _, _, _, _⟩) (v := ?_) rfl (by kernel_rfl) (by kernel_rfl) (by kernel_rfl) (fun _ _ _ h => h) (Or.inl ⟨by rfl, ?_⟩) hS ?_
        rotate_left
        · intro w' hS'; (first | (go_simp; done) | (go_simp; with_reducible rfl) | with_reducible rfl)
        (try simp only [Act.put, List.setIfInBounds_toArray, List.set_cons_zero, List.set_cons_succ])
        refine wpAnyH_take (i := 2) (oi := ⟨_, _, _, _, _, _⟩) (v := ?_) rfl (by kernel_rfl) (by kernel_rfl) (by kernel_rfl) (fun _ _ _ h => h) (Or.inl ⟨by rfl, ?_⟩) hS ?_
        rotate_left
        · intro w' hS'; (first | (go_simp; done) | (go_simp; with_reducible rfl) | with_reducible rfl)
        (try simp only [Act.put, List.setIfInBounds_toArray, List.set_cons_zero, List.set_cons_succ])
        refine wpAnyH_take (i := 3) (oi := ⟨_, _, _, _, _, _⟩) (v := ?_) rfl (by kernel_rfl) (by kernel_rfl) (by kernel_rfl) (fun _ _ _ h => h) (Or.inl ⟨by rfl, ?_⟩) hS ?_
        rotate_left
        · intro w' hS'; (first | (go_simp; done) | (go_simp; with_reducible rfl) | with_reducible rfl)
        (try simp only [Act.put, List.setIfInBounds_toArray, List.set_cons_zero, List.set_cons_succ])
        refine wpAnyH_take (i := 4) (oi := ⟨_, _, _, _, _, _⟩) (v := undef) rfl (by kernel_rfl) (by kernel_rfl) (by kernel_rfl) (fun _ _ _ h => h) (Or.inr ⟨by rfl, rfl⟩) hS ?_
        (try simp only [Act.put, List.setIfInBounds_toArray, List.set_cons_zero, List.set_cons_succ])
        refine wpAnyH_take (i := 5) (oi := ⟨_, _, _, _, _, _⟩) (v := undef) rfl (by kernel_rfl) (by kernel_rfl) (by kernel_rfl) (fun _ _ _ h => h) (Or.inr ⟨by rfl, rfl⟩) hS ?_
        (try simp only [Act.put, List.setIfInBounds_toArray, List.set_cons_zero, List.set_cons_succ])
        refine wpAnyH_take (i := 6) (oi := ⟨_, _, _, _, _, _⟩) (v := ?_) rfl (by kernel_rfl) (by kernel_rfl) (by kernel_rfl) (fun _ _ _ h => h) (Or.inl ⟨by rfl, ?_⟩) hS ?_
        rotate_left
        · intro w' hS'; (first | (go_simp; done) | (go_simp; with_reducible rfl) | with_reducible rfl)
        (try simp only [Act.put, List.setIfInBounds_toArray, List.set_cons_zero, List.set_cons_succ])
        refine wpAnyH_take (i := 7) (oi := ⟨_, _, _, _, _, _⟩) (v := ?_) rfl (by kernel_rfl) (by kernel_rfl) (by kernel_rfl) (fun _ _ _ h => h) (Or.inl ⟨by rfl, ?_⟩) hS ?_
        rotate_left
        · intro w' hS'; (first | (go_simp; done) | (go_simp; with_reducible rfl) | with_reducible rfl)
        (try simp only [Act.put, List.setIfInBounds_toArray, List.set_cons_zero, List.set_cons_succ])
        refine wpAnyH_take (i := 8) (oi := ⟨_, _, _, _, _, _⟩) (v := ?_) rfl (by kernel_rfl) (by kernel_rfl) (by kernel_rfl) (fun _ _ _ h => h) (Or.inl ⟨by rfl, ?_⟩) hS ?_
        rotate_left
        · intro w' hS'; (first | (go_simp; done) | (go_simp; with_reducible rfl) | with_reducible rfl)
        (try simp only [Act.put, List.setIfInBounds_toArray, List.set_cons_zero, List.set_cons_succ])
        refine wpAnyH_take (i := 9) (oi := ⟨_, _, _, _, _, _⟩) (v := ?_) rfl (by kernel_rfl) (by kernel_rfl) (by kernel_rfl) (fun _ _ _ h => h) (Or.inl ⟨by rfl, ?_⟩) hS ?_
        rotate_left
        · intro w' hS'; (first | (go_simp; done) | (go_simp; with_reducible rfl) | with_reducible rfl)
        (try simp only [Act.put, List.setIfInBounds_toArray, List.set_cons_zero, List.set_cons_succ])
        refine wpAnyH_take (i := 10) (oi := ⟨_, _, _, _, _, _⟩) (v := ?_) rfl (by kernel_rfl) (by kernel_rfl) (by kernel_rfl) (fun _ _ _ h => h) (Or.inl ⟨by rfl, ?_⟩) hS ?_
        rotate_left
        · intro w' hS'; (first | (go_simp; done) | (go_simp; with_reducible rfl) | with_reducible rfl)
        (try simp only [Act.put, List.setIfInBounds_toArray, List.set_cons_zero, List.set_cons_succ])
        refine wpAnyH_take (i := 11) (oi := ⟨_, _, _, _, _, _⟩) (v := ?_) rfl (by kernel_rfl) (by kernel_rfl) (by kernel_rfl) (fun _ _ _ h => h) (Or.inl ⟨by rfl, ?_⟩) hS ?_
        rotate_left
        · intro w' hS'; have p' := p6.call hS'; have c0 := p'.cell0; have c1 := p'.cell1; (first | (go_simp; done) | (go_simp; with_reducible rfl) | with_reducible rfl)
        (try simp only [Act.put, List.setIfInBounds_toArray, List.set_cons_zero, List.set_cons_succ])
        refine wpAnyH_take (i := 12) (oi := ⟨_, _, _, _, _, _⟩) (v := ?_) rfl (by kernel_rfl) (by kernel_rfl) (by kernel_rfl) (fun _ _ _ h => h) (Or.inl ⟨by rfl, ?_⟩) hS ?_
        rotate_left
        · intro w' hS'; have p' := pa.call hS'; have c0 := p'.cell0; have c1 := p'.cell1; (first | (go_simp; done) | (go_simp; with_reducible rfl) | with_reducible rfl)
        (try simp only [Act.put, List.setIfInBounds_toArray, List.set_cons_zero, List.set_cons_succ])
        refine wpAnyH_ready (rs := [13]) (by kernel_rfl) (by simp) ?_
        refine AllReadyH.cons (o := ⟨_, _, _, _, _, _⟩) rfl (fun K hK => ?_) AllReadyH.nil
        go_simp
        refine (HCA.out _ (ha.call hS)).mono ?_
        rintro e u1 ⟨t1, B1, m1, e1, rfl, j1, d1⟩
        replace hS := bthen hS d1
        first | (with_reducible refine hK.out _ _ hS (fun _ => ?_)) | (go_wp2_with fail; with_reducible refine hK.out _ _ hS (fun _ => ?_))
        clear hK K
        (try simp only [Act.put, List.setIfInBounds_toArray, List.set_cons_zero, List.set_cons_succ])
        refine wpAnyH_ready (rs := [14]) (by kernel_rfl) (by simp) ?_
        refine AllReadyH.cons (o := ⟨_, _, _, _, _, _⟩) rfl (fun K hK => ?_) AllReadyH.nil
        go_simp
        refine (same_true _ (i1.call hS) j1 rfl).mono ?_
        rintro e u2 ⟨rfl, d2⟩
        replace hS := bthen hS d2
        (replace j1 := j1.call d2)
        first | (with_reducible refine hK.out _ _ hS (fun _ => ?_)) | (go_wp2_with fail; with_reducible refine hK.out _ _ hS (fun _ => ?_))
        clear hK K
        (try simp only [Act.put, List.setIfInBounds_toArray, List.set_cons_zero, List.set_cons_succ])
        refine wpAnyH_take (i := 15) (oi := ⟨_, _, _, _, _, _⟩) (v := ?_) rfl (by kernel_rfl) (by kernel_rfl) (by kernel_rfl) (fun _ _ _ h => h) (Or.inl ⟨by rfl, ?_⟩) hS ?_
        rotate_left
        · intro w' hS'; (first | (go_simp; done) | (go_simp; with_reducible rfl) | with_reducible rfl)
        (try simp only [Act.put, List.setIfInBounds_toArray, List.set_cons_zero, List.set_cons_succ])
        refine wpAnyH_take (i := 16) (oi := ⟨_, _, _, _, _, _⟩) (v := ?_) rfl (by kernel_rfl) (by kernel_rfl) (by kernel_rfl) (fun _ _ _ h => h) (Or.inl ⟨by rfl, ?_⟩) hS ?_
        rotate_left
        · intro w' hS'; (first | (go_simp; done) | (go_simp; with_reducible rfl) | with_reducible rfl)
        (try simp only [Act.put, List.setIfInBounds_toArray, List.set_cons_zero, List.set_cons_succ])
        refine wpAnyH_ready (rs := [17]) (by kernel_rfl) (by simp) ?_
        refine AllReadyH.cons (o := ⟨_, _, _, _, _, _⟩) rfl (fun K hK => ?_) AllReadyH.nil
        go_simp
        refine (awake_any _ (ht.call hS)).mono ?_
        rintro e u3 ⟨rfl, d3⟩
        replace hS := bthen hS d3
        (replace j1 := j1.call d3)
        first | (with_reducible refine hK.out _ _ hS (fun _ => ?_)) | (go_wp2_with fail; with_reducible refine hK.out _ _ hS (fun _ => ?_))
        clear hK K
        (try simp only [Act.put, List.setIfInBounds_toArray, List.set_cons_zero, List.set_cons_succ])
        refine wpAnyH_take (i := 18) (oi := ⟨_, _, _, _, _, _⟩) (v := ?_) rfl (by kernel_rfl) (by kernel_rfl) (by kernel_rfl) (fun _ _ _ h => h) (Or.inl ⟨by rfl, ?_⟩) hS ?_
        rotate_left
        · intro w' hS'; (first | (go_simp; done) | (go_simp; with_reducible rfl) | with_reducible rfl)
        (try simp only [Act.put, List.setIfInBounds_toArray, List.set_cons_zero, List.set_cons_succ])
        refine wpAnyH_take (i := 19) (oi := ⟨_, _, _, _, _, _⟩) (v := ?_) rfl (by kernel_rfl) (by kernel_rfl) (by kernel_rfl) (fun _ _ _ h => h) (Or.inl ⟨by rfl, ?_⟩) hS ?_
        rotate_left
        · intro w' hS'; (first | (go_simp; done) | (go_simp; with_reducible rfl) | with_reducible rfl)
        (try simp only [Act.put, List.setIfInBounds_toArray, List.set_cons_zero, List.set_cons_succ])
        refine wpAnyH_take (i := 20) (oi := ⟨_, _, _, _, _, _⟩) (v := ?_) rfl (by kernel_rfl) (by kernel_rfl) (by kernel_rfl) (fun _ _ _ h => h) (Or.inl ⟨by rfl, ?_⟩) hS ?_
        rotate_left
        · intro w' hS'; (first | (go_simp; done) | (go_simp; with_reducible rfl) | with_reducible rfl)
        (try simp only [Act.put, List.setIfInBounds_toArray, List.set_cons_zero, List.set_cons_succ])
        refine wpAnyH_done (by kernel_rfl) ?_ _
        go_wp2
        go_ret
        exact ⟨rfl, bthen bW hS⟩
      · rw [if_neg h400, if_neg h400] at hP
        have hq : decide ((400 : Int) < (T.size : Int)) = true := decide_eq_true (by omega)
        have hq' : decide (400 < T.size) = true := decide_eq_true (by omega)
        have HP1 := Lib.hid (fun W => parse_any T W hP (by omega))
        have HP2 := Lib.hid (fun W => parse_any b W hPB (by omega))
        have HP3 := Lib.hid (fun W => refParse_any b W hPB (by omega))
        have HTS := Lib.hid hTs
        have bne0 : (T.toList != T.toList) = false := bne_self_eq_false _
        have bne1 : (cb != cb) = false := bne_self_eq_false _
        clear hP hPB hTs h400 hTL
        go_upto_region 3 with (fail)
        go_wp2_with fail
        refine H1.out.mono ?_
        rintro e X0 ⟨rfl, d0⟩
        replace bW := bthen bW d0
        (replace pa := pa.call d0); (replace ha := ha.call d0); (replace ht := ht.call d0)
        clear H1 d0 a0 a1
        go_wp2_with fail
        refine (HP1.out _).mono ?_
        rintro e X1 ⟨s1, A1, n1, c1, rfl, i1, d1⟩
        clear HP1
        obtain ⟨X2, hX2⟩ : ∃ Y, Y = X1.alloc (.cells #[.bool s1, .slice A1 n1 c1] 24) := ⟨_, rfl⟩
        have db : Below X1.heap.size X1 X2 := by rw [hX2]; exact bone _ _
        have p6 : Pr X2 X1.heap.size s1 A1 n1 c1 := by rw [hX2]; exact Pr.new _ _ _ _ _
        (replace pa := pa.call d1); (replace ha := ha.call d1); (replace ht := ht.call d1)
        (replace pa := pa.call db); (replace ha := ha.call db); (replace ht := ht.call db); (replace i1 := i1.call db)
        replace bW := bthen (bthen bW d1) db
        clear db d1
        go_upto_region 5 with (fail)
        rw [← hX2]
        clear hX2
        generalize X1.heap.size = gp6 at *
        go_wp2_with fail
        refine (HP2.out _).mono ?_
        rintro e X3 ⟨s3, A3, n3, c3, rfl, i3, d3⟩
        clear HP2
        obtain ⟨X4, hX4⟩ : ∃ Y, Y = X3.alloc (.cells #[.bool s3, .slice A3 n3 c3] 24) := ⟨_, rfl⟩
        have db : Below X3.heap.size X3 X4 := by rw [hX4]; exact bone _ _
        have p8 : Pr X4 X3.heap.size s3 A3 n3 c3 := by rw [hX4]; exact Pr.new _ _ _ _ _
        (replace pa := pa.call d3); (replace ha := ha.call d3); (replace ht := ht.call d3); (replace p6 := p6.call d3); (replace i1 := i1.call d3)
        (replace pa := pa.call db); (replace ha := ha.call db); (replace ht := ht.call db); (replace p6 := p6.call db); (replace i1 := i1.call db); (replace i3 := i3.call db)
        replace bW := bthen (bthen bW d3) db
        clear db d3
        go_upto_region 6 with (fail)
        rw [← hX4]
        clear hX4
        generalize X3.heap.size = gp8 at *
        go_wp2_with fail
        refine (HP3.out _).mono ?_
        rintro e X5 ⟨s5, A5, n5, c5, rfl, i5, d5⟩
        clear HP3
        obtain ⟨X6, hX6⟩ : ∃ Y, Y = X5.alloc (.cells #[.bool s5, .slice A5 n5 c5] 24) := ⟨_, rfl⟩
        have db : Below X5.heap.size X5 X6 := by rw [hX6]; exact bone _ _
        have p10 : Pr X6 X5.heap.size s5 A5 n5 c5 := by rw [hX6]; exact Pr.new _ _ _ _ _
        (replace pa := pa.call d5); (replace ha := ha.call d5); (replace ht := ht.call d5); (replace p6 := p6.call d5); (replace i1 := i1.call d5); (replace p8 := p8.call d5); (replace i3 := i3.call d5)
        (replace pa := pa.call db); (replace ha := ha.call db); (replace ht := ht.call db); (replace p6 := p6.call db); (replace i1 := i1.call db); (replace p8 := p8.call db); (replace i3 := i3.call db); (replace i5 := i5.call db)
        replace bW := bthen (bthen bW d5) db
        clear db d5
        go_upto_region 7 with (fail)
        rw [← hX6]
        clear hX6
        generalize X5.heap.size = gp10 at *
        obtain ⟨a0, a1⟩ := pa.cells1
        go_wp2_with fail
        refine (HRF.out _ ha).mono ?_
        rintro e X7 ⟨he, d7⟩
        rw [HTT.out] at he
        subst he
        (replace pa := pa.call d7); (replace ha := ha.call d7); (replace ht := ht.call d7); (replace p6 := p6.call d7); (replace i1 := i1.call d7); (replace p8 := p8.call d7); (replace i3 := i3.call d7); (replace p10 := p10.call d7); (replace i5 := i5.call d7)
        replace bW := bthen bW d7
        clear HRF d7 a0 a1
        obtain ⟨m0, m1⟩ := p8.cells1
        obtain ⟨l0, l1⟩ := p10.cells1
        have HSA := Lib.hid (same_true _ i3 i5 rfl)
        go_wp2_with fail
        refine HSA.out.mono ?_
        rintro e X8 ⟨rfl, d8⟩
        (replace pa := pa.call d8); (replace ha := ha.call d8); (replace ht := ht.call d8); (replace p6 := p6.call d8); (replace i1 := i1.call d8)
        replace bW := bthen bW d8
        clear HSA d8 m0 m1 l0 l1 p8 p10 i3 i5
        go_upto_region 9 with (fail)
        refine wp_region_held_drew (S := fun w' => Below X8.heap.size X8 w') (by kernel_rfl) (bdrew X8) (fun hS => ?_)
        have hS : Below X8.heap.size X8 X8.drew := bdrew X8
        generalize X8.drew = u0 at hS ⊢
        refine wpAnyH_take (i := 0) (oi := ⟨_, _, _, _, _, _⟩) (v := ?_) rfl (by kernel_rfl) (by kernel_rfl) (by kernel_rfl) (fun _ _ _ h => h) (Or.inl ⟨by rfl, ?_⟩) hS ?_
        rotate_left
        · intro w' hS'; (first | (go_simp; done) | (go_simp; with_reducible rfl) | with_reducible rfl)
        (try simp only [Act.put, List.setIfInBounds_toArray, List.set_cons_zero, List.set_cons_succ])
        refine wpAnyH_take (i := 1) (oi := ⟨_, _, _, _, _, _⟩) (v := ?_) rfl (by kernel_rfl) (by kernel_rfl) (by kernel_rfl) (fun _ _ _ h => h) (Or.inl ⟨by rfl, ?_⟩) hS ?_
        rotate_left
        · intro w' hS'; (first | (go_simp; done) | (go_simp; with_reducible rfl) | with_reducible rfl)
        (try simp only [Act.put, List.setIfInBounds_toArray, List.set_cons_zero, List.set_cons_succ])
        refine wpAnyH_take (i := 2) (oi := ⟨_, _, _, _, _, _⟩) (v := ?_) rfl (by kernel_rfl) (by kernel_rfl) (by kernel_rfl) (fun _ _ _ h => h) (Or.inl ⟨by rfl, ?_⟩) hS ?_
        rotate_left
        · intro w' hS'; (first | (go_simp; done) | (go_simp; with_reducible rfl) | with_reducible rfl)
        (try simp only [Act.put, List.setIfInBounds_toArray, List.set_cons_zero, List.set_cons_succ])
        refine wpAnyH_take (i := 3) (oi := ⟨_, _, _, _, _, _⟩) (v := ?_) rfl (by kernel_rfl) (by kernel_rfl) (by kernel_rfl) (fun _ _ _ h => h) (Or.inl ⟨by rfl, ?_⟩) hS ?_
        rotate_left
        · intro w' hS'; (first | (go_simp; done) | (go_simp; with_reducible rfl) | with_reducible rfl)
        (try simp only [Act.put, List.setIfInBounds_toArray, List.set_cons_zero, List.set_cons_succ])
        refine wpAnyH_take (i := 4) (oi := ⟨_, _, _, _, _, _⟩) (v := ?_) rfl (by kernel_rfl) (by kernel_rfl) (by kernel_rfl) (fun _ _ _ h => h) (Or.inl ⟨by rfl, ?_⟩) hS ?_
        rotate_left
        · intro w' hS'; (first | (go_simp; done) | (go_simp; with_reducible rfl) | with_reducible rfl)
        (try simp only [Act.put, List.setIfInBounds_toArray, List.set_cons_zero, List.set_cons_succ])
        refine wpAnyH_take (i := 5) (oi := ⟨_, _, _, _, _, _⟩) (v := ?_) rfl (by kernel_rfl) (by kernel_rfl) (by kernel_rfl) (fun _ _ _ h => h) (Or.inl ⟨by rfl, ?_⟩) hS ?_
        rotate_left
        · intro w' hS'; (first | (go_simp; done) | (go_simp; with_reducible rfl) | with_reducible rfl)
        (try simp only [Act.put, List.setIfInBounds_toArray, List.set_cons_zero, List.set_cons_succ])
        refine wpAnyH_take (i := 6) (oi := ⟨_, _, _, _, _, _⟩) (v := ?_) rfl (by kernel_rfl) (by kernel_rfl) (by kernel_rfl) (fun _ _ _ h => h) (Or.inl ⟨by rfl, ?_⟩) hS ?_
        rotate_left
        · intro w' hS'; (first | (go_simp; done) | (go_simp; with_reducible rfl) | with_reducible rfl)
        (try simp only [Act.put, List.setIfInBounds_toArray, List.set_cons_zero, List.set_cons_succ])
        refine wpAnyH_take (i := 7) (oi := ⟨_, _, _, _, _, _⟩) (v := ?_) rfl (by kernel_rfl) (by kernel_rfl) (by kernel_rfl) (fun _ _ _ h => h) (Or.inl ⟨by rfl, ?_⟩) hS ?_
        rotate_left
        · intro w' hS'; (first | (go_simp; done) | (go_simp; with_reducible rfl) | with_reducible rfl)
        (try simp only [Act.put, List.setIfInBounds_toArray, List.set_cons_zero, List.set_cons_succ])
        refine wpAnyH_take (i := 8) (oi := ⟨_, _, _, _, _, _⟩) (v := undef) rfl (by kernel_rfl) (by kernel_rfl) (by kernel_rfl) (fun _ _ _ h => h) (Or.inr ⟨by rfl, rfl⟩) hS ?_
        (try simp only [Act.put, List.setIfInBounds_toArray, List.set_cons_zero, List.set_cons_succ])
        refine wpAnyH_take (i := 9) (oi := ⟨_, _, _, _, _, _⟩) (v := undef) rfl (by kernel_rfl) (by kernel_rfl) (by kernel_rfl) (fun _ _ _ h => h) (Or.inr ⟨by rfl, rfl⟩) hS ?_
        (try simp only [Act.put, List.setIfInBounds_toArray, List.set_cons_zero, List.set_cons_succ])
        refine wpAnyH_take (i := 10) (oi := ⟨_, _, _, _, _, _⟩) (v := undef) rfl (by kernel_rfl) (by kernel_rfl) (by kernel_rfl) (fun _ _ _ h => h) (Or.inr ⟨by rfl, rfl⟩) hS ?_
        (try simp only [Act.put, List.setIfInBounds_toArray, List.set_cons_zero, List.set_cons_succ])
        refine wpAnyH_take (i := 11) (oi := ⟨_, _, _, _, _, _⟩) (v := undef) rfl (by kernel_rfl) (by kernel_rfl) (by kernel_rfl) (fun _ _ _ h => h) (Or.inr ⟨by rfl, rfl⟩) hS ?_
        (try simp only [Act.put, List.setIfInBounds_toArray, List.set_cons_zero, List.set_cons_succ])
        refine wpAnyH_take (i := 12) (oi := ⟨_, _, _, _, _, _⟩) (v := undef) rfl (by kernel_rfl) (by kernel_rfl) (by kernel_rfl) (fun _ _ _ h => h) (Or.inr ⟨by rfl, rfl⟩) hS ?_
        (try simp only [Act.put, List.setIfInBounds_toArray, List.set_cons_zero, List.set_cons_succ])
        refine wpAnyH_take (i := 13) (oi := ⟨_, _, _, _, _, _⟩) (v := undef) rfl (by kernel_rfl) (by kernel_rfl) (by kernel_rfl) (fun _ _ _ h => h) (Or.inr ⟨by rfl, rfl⟩) hS ?_
        (try simp only [Act.put, List.setIfInBounds_toArray, List.set_cons_zero, List.set_cons_succ])
        refine wpAnyH_take (i := 14) (oi := ⟨_, _, _, _, _, _⟩) (v := undef) rfl (by kernel_rfl) (by kernel_rfl) (by kernel_rfl) (fun _ _ _ h => h) (Or.inr ⟨by rfl, rfl⟩) hS ?_
        (try simp only [Act.put, List.setIfInBounds_toArray, List.set_cons_zero, List.set_cons_succ])
        refine wpAnyH_take (i := 15) (oi := ⟨_, _, _, _, _, _⟩) (v := undef) rfl (by kernel_rfl) (by kernel_rfl) (by kernel_rfl) (fun _ _ _ h => h) (Or.inr ⟨by rfl, rfl⟩) hS ?_
        (try simp only [Act.put, List.setIfInBounds_toArray, List.set_cons_zero, List.set_cons_succ])
        refine wpAnyH_take (i := 16) (oi := ⟨_, _, _, _, _, _⟩) (v := undef) rfl (by kernel_rfl) (by kernel_rfl) (by kernel_rfl) (fun _ _ _ h => h) (Or.inr ⟨by rfl, rfl⟩) hS ?_
        (try simp only [Act.put, List.setIfInBounds_toArray, List.set_cons_zero, List.set_cons_succ])
        refine wpAnyH_take (i := 17) (oi := ⟨_, _, _, _, _, _⟩) (v := undef) rfl (by kernel_rfl) (by kernel_rfl) (by kernel_rfl) (fun _ _ _ h => h) (Or.inr ⟨by rfl, rfl⟩) hS ?_
        (try simp only [Act.put, List.setIfInBounds_toArray, List.set_cons_zero, List.set_cons_succ])
        refine wpAnyH_take (i := 18) (oi := ⟨_, _, _, _, _, _⟩) (v := undef) rfl (by kernel_rfl) (by kernel_rfl) (by kernel_rfl) (fun _ _ _ h => h) (Or.inr ⟨by rfl, rfl⟩) hS ?_
        (try simp only [Act.put, List.setIfInBounds_toArray, List.set_cons_zero, List.set_cons_succ])
        refine wpAnyH_take (i := 19) (oi := ⟨_, _, _, _, _, _⟩) (v := ?_) rfl (by kernel_rfl) (by kernel_rfl) (by kernel_rfl) (fun _ _ _ h => h) (Or.inl ⟨by rfl, ?_⟩) hS ?_
        rotate_left
        · intro w' hS'; (first | (go_simp; done) | (go_simp; with_reducible rfl) | with_reducible rfl)
        (try simp only [Act.put, List.setIfInBounds_toArray, List.set_cons_zero, List.set_cons_succ])
        refine wpAnyH_take (i := 20) (oi := ⟨_, _, _, _, _, _⟩) (v := ?_) rfl (by kernel_rfl) (by kernel_rfl) (by kernel_rfl) (fun _ _ _ h => h) (Or.inl ⟨by rfl, ?_⟩) hS ?_
        rotate_left
        · intro w' hS'; (first | (go_simp; done) | (go_simp; with_reducible rfl) | with_reducible rfl)
        (try simp only [Act.put, List.setIfInBounds_toArray, List.set_cons_zero, List.set_cons_succ])
        refine wpAnyH_done (by kernel_rfl) ?_ _
        go_wp2
        go_ret
        exact ⟨rfl, bthen bW hS⟩
end Go.Proofs.YteicjbinginamaaDoor
