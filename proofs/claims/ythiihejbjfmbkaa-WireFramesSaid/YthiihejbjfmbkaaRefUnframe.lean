/- The walk of the reference Unframe. -/
import Derived.Test.YthiihejbjfmbkaaWireEnc
import Derived.Test.YthiihejbjfmbkaaWireDec
import Derived.Test.YthiihejbjfmbkaaCrc
import Derived.Test.YthiihejbjfmbkaaFramePlain
namespace Go.Proofs.Ythiihejbjfmbkaa
open Go.RowKit

set_option maxHeartbeats 1000000 in
set_option maxRecDepth 100000 in
theorem refUnframe_any {A : Option Addr} {n c : Nat} {xs : List Nat} (w : World) (hr : Rd .u8 w w.heap.size A n xs) (hx : ∀ x ∈ xs, x < 256) (hnc : n ≤ c) (hn : n ≤ 140737488355328) (hc : c ≤ 9223372036854775807) :
    Calls Try.prog 29 #[.slice A n c] w (RetUnf 5 (unframe xs) w) := by
  have hl := hr.len
  unfold unframe
  rw [hl]
  have HL := Lib.hid hl
  clear hl
  by_cases h0 : n = 0
  · rw [if_pos h0]
    have h0' : ((n : Int) == 0) = true := by simp [h0]
    clear h0
    go_enter Try.func29, Try.ntmps29
    go_wp2
    refine bodyPost_ret (results4 rfl _ _ _) rfl ?_
    exact ⟨_, rfl, Own.nil (Below.refl _ _)⟩
  · rw [if_neg h0]
    have h0' : ((n : Int) == 0) = false := by simp [h0]
    have hd := fun A' (hr' : Rd .u8 w w.heap.size A' (n - 1) (xs.drop 1)) => refDecodeUint_any (c := c - 1) w hr' (drop_byte 1 hx) (by omega)
    have hbd := decU_bd (xs.drop 1)
    have her := (decU_err (xs.drop 1)).1
    rw [List.length_drop, HL.out] at hbd
    generalize decU (xs.drop 1) = r at *
    obtain ⟨u, k, er⟩ := r
    have HD := Lib.hid hd
    have Hx := Lib.hid hx
    clear hd hx
    simp only at hbd her ⊢
    by_cases he : er = 0
    · rw [if_neg (by simp [he])]
      obtain ⟨h1, h2, h3, h4⟩ := hbd he
      subst he
      clear hbd
      by_cases hu : 1048576 < u
      · rw [if_pos hu]
        go_enter Try.func29, Try.ntmps29
        go_wp2_with (refine wpList_cut_l (klo := .i64) (l := 1) Try.elemU8 Try.underlying23 hr rfl rfl rfl rfl (by omega) hnc ?_)
        intro A' hr'
        rw [← List.drop_one] at hr'
        go_wp2_with fail
        refine (HD.out _ hr').mono ?_
        rintro e w1 ⟨rfl, rfl⟩
        go_wp2
        refine bodyPost_ret (results4 rfl _ _ _) rfl ?_
        exact ⟨_, rfl, Own.nil (Below.refl _ _)⟩
      · rw [if_neg hu]
        by_cases hcut : n - (1 + k) < u + 4
        · rw [if_pos hcut]
          go_enter Try.func29, Try.ntmps29
          go_wp2_with (refine wpList_cut_l (klo := .i64) (l := 1) Try.elemU8 Try.underlying23 hr rfl rfl rfl rfl (by omega) hnc ?_)
          intro A' hr'
          rw [← List.drop_one] at hr'
          go_wp2_with fail
          refine (HD.out _ hr').mono ?_
          rintro e w1 ⟨rfl, rfl⟩
          go_wp2
          refine bodyPost_ret (results4 rfl _ _ _) rfl ?_
          exact ⟨_, rfl, Own.nil (Below.refl _ _)⟩
        · rw [if_neg hcut]
          obtain ⟨en, hen⟩ : ∃ en, en = 1 + k + u := ⟨_, rfl⟩
          rw [← hen]
          have hck := fun A' (r' : Rd .u8 w w.heap.size A' en (xs.take en)) => refChecksum_any (c := c) w r' (take_byte en Hx.out) (by omega)
          have hcl := crc_lt' (xs.take en)
          rw [take4_eq xs en (by rw [HL.out]; omega)]
          generalize crc (xs.take en) = sm at *
          have H4 := Lib.hid (sum4_iff sm (xs.getD en 0) (xs.getD (en + 1) 0) (xs.getD (en + 2) 0) (xs.getD (en + 3) 0) hcl)
          have HK := Lib.hid hck
          have hen1 : en ≤ 1 + k + u := by omega
          have hen2 : 1 + k + u ≤ en := by omega
          have HE := Lib.hid hen
          obtain ⟨b0, off0, rfl, lt0, hc0⟩ := hr.at_ (j := 0) (by omega)
          have cellAt : ∀ j, j < n → w.cell? ⟨b0, off0 + j, none⟩ = some (.int .u8 ((xs.getD j 0 : Nat) : Int)) := fun j hj => by
            obtain ⟨b, off, e, _, hcj⟩ := hr.at_ hj
            injection e with e
            injection e with e1 e2
            subst e1 e2
            exact hcj
          have k0 := cellAt en (by omega)
          have k1 := cellAt (en + 1) (by omega)
          have k2 := cellAt (en + 2) (by omega)
          have k3 := cellAt (en + 3) (by omega)
          have HH := Lib.hid (cellAt 0 (by omega))
          clear cellAt hc0
          generalize hR : (if [xs.getD en 0, xs.getD (en + 1) 0, xs.getD (en + 2) 0, xs.getD (en + 3) 0] = sum4 sm then (xs.getD 0 0, (xs.drop (1 + k)).take u, en + 4, 0) else (0, ([] : List Nat), 0, 4)) = R
          have HR := Lib.hid hR
          clear hck hen hR
          generalize xs.getD en 0 = y0 at *
          generalize xs.getD (en + 1) 0 = y1 at *
          generalize xs.getD (en + 2) 0 = y2 at *
          generalize xs.getD (en + 3) 0 = y3 at *
          have bad : ∀ e w', ¬ ((y0 : Int) = (sm : Int) / 16777216 ∧ (y1 : Int) = (sm : Int) / 65536 % 256 ∧ (y2 : Int) = (sm : Int) / 256 % 256 ∧ (y3 : Int) = (sm : Int) % 256) → e = .returned (.tuple #[.int .u8 0, .slice none 0 0, .int .i64 0, .int .i64 4]) → w = w' → RetUnf 5 R w e w' := by
            rintro e w' hb rfl rfl
            rw [← HR.out, if_neg (fun h => hb (H4.out.1 h))]
            exact ⟨_, rfl, Own.nil (Below.refl _ _)⟩
          have BAD := Lib.hid bad
          clear bad
          have walk0 : ∀ P : Prop, (((y0 : Int) != (sm : Int) / 16777216) = true → P) → (((y0 : Int) != (sm : Int) / 16777216) = false → ((y1 : Int) != (sm : Int) / 65536 % 256) = true → P) → (((y0 : Int) != (sm : Int) / 16777216) = false → ((y1 : Int) != (sm : Int) / 65536 % 256) = false → ((y2 : Int) != (sm : Int) / 256 % 256) = true → P) →
              (((y0 : Int) != (sm : Int) / 16777216) = false → ((y1 : Int) != (sm : Int) / 65536 % 256) = false → ((y2 : Int) != (sm : Int) / 256 % 256) = false → ((y3 : Int) != (sm : Int) % 256) = true → P) → (((y0 : Int) != (sm : Int) / 16777216) = false → ((y1 : Int) != (sm : Int) / 65536 % 256) = false → ((y2 : Int) != (sm : Int) / 256 % 256) = false → ((y3 : Int) != (sm : Int) % 256) = false → P) → P := by
            intro P p0 p1 p2 p3 p4
            cases e0 : ((y0 : Int) != (sm : Int) / 16777216)
            · cases e1 : ((y1 : Int) != (sm : Int) / 65536 % 256)
              · cases e2 : ((y2 : Int) != (sm : Int) / 256 % 256)
                · cases e3 : ((y3 : Int) != (sm : Int) % 256)
                  · exact p4 e0 e1 e2 e3
                  · exact p3 e0 e1 e2 e3
                · exact p2 e0 e1 e2
              · exact p1 e0 e1
            · exact p0 e0
          refine walk0 _ ?_ ?_ ?_ ?_ ?_
          all_goals clear walk0
          · intro e0
            go_enter Try.func29, Try.ntmps29
            go_wp2_with (refine wpList_cut_l (klo := .i64) (l := 1) Try.elemU8 Try.underlying23 hr rfl rfl rfl rfl (by omega) hnc ?_)
            intro A' hr'
            rw [← List.drop_one] at hr'
            go_wp2_with fail
            refine (HD.out _ hr').mono ?_
            rintro e w1 ⟨rfl, rfl⟩
            clear hr' HD
            have hsum : (1 : Int) + k + u = en := by omega
            go_wp2_with (refine wpList_cut_h (khi := .i64) (j := en) Try.elemU8 Try.underlying23 hr rfl rfl rfl rfl (by omega) hnc ?_)
            intro A3 r3
            go_wp2_with fail
            refine (HK.out _ r3).mono ?_
            rintro e w4 ⟨rfl, rfl⟩
            clear r3 HK
            go_wp2
            refine bodyPost_ret (results4 rfl _ _ _) rfl ?_
            exact BAD.out _ _ (fun h => by have h := h.1; simp [h] at e0) rfl rfl
          · intro e0 e1
            go_enter Try.func29, Try.ntmps29
            go_wp2_with (refine wpList_cut_l (klo := .i64) (l := 1) Try.elemU8 Try.underlying23 hr rfl rfl rfl rfl (by omega) hnc ?_)
            intro A' hr'
            rw [← List.drop_one] at hr'
            go_wp2_with fail
            refine (HD.out _ hr').mono ?_
            rintro e w1 ⟨rfl, rfl⟩
            clear hr' HD
            have hsum : (1 : Int) + k + u = en := by omega
            go_wp2_with (refine wpList_cut_h (khi := .i64) (j := en) Try.elemU8 Try.underlying23 hr rfl rfl rfl rfl (by omega) hnc ?_)
            intro A3 r3
            go_wp2_with fail
            refine (HK.out _ r3).mono ?_
            rintro e w4 ⟨rfl, rfl⟩
            clear r3 HK
            go_wp2
            refine bodyPost_ret (results4 rfl _ _ _) rfl ?_
            exact BAD.out _ _ (fun h => by have h := h.2.1; simp [h] at e1) rfl rfl
          · intro e0 e1 e2
            go_enter Try.func29, Try.ntmps29
            go_wp2_with (refine wpList_cut_l (klo := .i64) (l := 1) Try.elemU8 Try.underlying23 hr rfl rfl rfl rfl (by omega) hnc ?_)
            intro A' hr'
            rw [← List.drop_one] at hr'
            go_wp2_with fail
            refine (HD.out _ hr').mono ?_
            rintro e w1 ⟨rfl, rfl⟩
            clear hr' HD
            have hsum : (1 : Int) + k + u = en := by omega
            go_wp2_with (refine wpList_cut_h (khi := .i64) (j := en) Try.elemU8 Try.underlying23 hr rfl rfl rfl rfl (by omega) hnc ?_)
            intro A3 r3
            go_wp2_with fail
            refine (HK.out _ r3).mono ?_
            rintro e w4 ⟨rfl, rfl⟩
            clear r3 HK
            go_wp2
            refine bodyPost_ret (results4 rfl _ _ _) rfl ?_
            exact BAD.out _ _ (fun h => by have h := h.2.2.1; simp [h] at e2) rfl rfl
          · intro e0 e1 e2 e3
            go_enter Try.func29, Try.ntmps29
            go_wp2_with (refine wpList_cut_l (klo := .i64) (l := 1) Try.elemU8 Try.underlying23 hr rfl rfl rfl rfl (by omega) hnc ?_)
            intro A' hr'
            rw [← List.drop_one] at hr'
            go_wp2_with fail
            refine (HD.out _ hr').mono ?_
            rintro e w1 ⟨rfl, rfl⟩
            clear hr' HD
            have hsum : (1 : Int) + k + u = en := by omega
            go_wp2_with (refine wpList_cut_h (khi := .i64) (j := en) Try.elemU8 Try.underlying23 hr rfl rfl rfl rfl (by omega) hnc ?_)
            intro A3 r3
            go_wp2_with fail
            refine (HK.out _ r3).mono ?_
            rintro e w4 ⟨rfl, rfl⟩
            clear r3 HK
            go_wp2
            refine bodyPost_ret (results4 rfl _ _ _) rfl ?_
            exact BAD.out _ _ (fun h => by have h := h.2.2.2; simp [h] at e3) rfl rfl
          · intro e0 e1 e2 e3
            have HG : Hid ([y0, y1, y2, y3] = sum4 sm) := H4.out.2 ⟨by simpa using e0, by simpa using e1, by simpa using e2, by simpa using e3⟩
            go_enter Try.func29, Try.ntmps29
            go_wp2_with (refine wpList_cut_l (klo := .i64) (l := 1) Try.elemU8 Try.underlying23 hr rfl rfl rfl rfl (by omega) hnc ?_)
            intro A' hr'
            rw [← List.drop_one] at hr'
            go_wp2_with fail
            refine (HD.out _ hr').mono ?_
            rintro e w1 ⟨rfl, rfl⟩
            clear hr' HD
            have hsum : (1 : Int) + k + u = en := by omega
            go_wp2_with (refine wpList_cut_h (khi := .i64) (j := en) Try.elemU8 Try.underlying23 hr rfl rfl rfl rfl (by omega) hnc ?_)
            intro A3 r3
            go_wp2_with fail
            refine (HK.out _ r3).mono ?_
            rintro e w4 ⟨rfl, rfl⟩
            clear r3 HK
            go_wp2
            have hc0 := HH.out
            simp only [Nat.add_zero] at hc0
            have hne2 : ¬ c = 1 + k := by omega
            have q1 : 0 < n := by omega
            have q1' : (0 : Int) < (n : Int) := by omega
            have q2 : (0 : Int) ≤ 1 + (k : Int) := by omega
            have q3 : 1 + (k : Int) ≤ (en : Int) := by omega
            have q4 : (en : Int) ≤ (c : Int) := by omega
            have q5 : (1 + (k : Int)).toNat = 1 + k := by omega
            have q6 : IntKind.i64.wrap ((en : Int) + 4) = (en : Int) + 4 := IntWalk.i64_in _ (by omega)
            have q7 : IntKind.i64.wrap (1 + (k : Int)) = 1 + (k : Int) := IntWalk.i64_in _ (by omega)
            go_region_held3 (fun w' => w'.cell? ⟨b0, off0, none⟩ = some (.int .u8 ((xs.getD 0 0 : Nat) : Int))) (first | (go_keep; done) | (rw [(below_grown_nil g5).cell (p := ⟨b0, off0, none⟩) lt0]; assumption))
              ((refine step_append_lst Try.elemU8 Try.underlying23 (Own.nil (Below.refl _ _).drew) (hr.sub (i := 1 + k) (j := en) rfl (by omega) (by omega)).drew (by rfl) (by rfl) (by rfl) (by rfl) (by simp; omega) (by simp; omega) ?_; intro v5 w5 o5 g5 _))
            go_wp2
            refine bodyPost_ret (results4 rfl _ _ _) rfl ?_
            rw [← HR.out, if_pos HG.out]
            refine ⟨v5, rfl, ?_⟩
            have e5 : en - (1 + k) = u := by omega
            rw [e5] at o5
            exact o5
    · rw [if_pos he]
      have he' : ((er : Int) != 0) = true := by simp [he]
      clear hbd
      go_enter Try.func29, Try.ntmps29
      go_wp2_with (refine wpList_cut_l (klo := .i64) (l := 1) Try.elemU8 Try.underlying23 hr rfl rfl rfl rfl (by omega) hnc ?_)
      intro A' hr'
      rw [← List.drop_one] at hr'
      go_wp2_with fail
      refine (HD.out _ hr').mono ?_
      rintro e w1 ⟨rfl, rfl⟩
      go_wp2
      refine bodyPost_ret (results4 rfl _ _ _) rfl ?_
      exact ⟨_, rfl, Own.nil (Below.refl _ _)⟩
end Go.Proofs.Ythiihejbjfmbkaa
