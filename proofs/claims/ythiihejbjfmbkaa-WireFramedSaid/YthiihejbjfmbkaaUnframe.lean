/- The walks of Unframe. -/
import Derived.Test.YthiihejbjfmbkaaWireEnc
import Derived.Test.YthiihejbjfmbkaaWireDec
import Derived.Test.YthiihejbjfmbkaaCrc
import Derived.Test.YthiihejbjfmbkaaFramePlain
namespace Go.Proofs.Ythiihejbjfmbkaa
open Go.RowKit

set_option maxHeartbeats 1000000 in
set_option maxRecDepth 100000 in
theorem unframe_any {A : Option Addr} {n c : Nat} {xs : List Nat} (w : World) (hr : Rd .u8 w w.heap.size A n xs) (hx : ∀ x ∈ xs, x < 256) (hnc : n ≤ c) (hn : n ≤ 140737488355328) (hc : c ≤ 9223372036854775807) :
    Calls Try.prog 28 #[.slice A n c] w (RetUnf 5 (unframe xs) w) := by
  have hl := hr.len
  unfold unframe
  rw [hl]
  have HL := Lib.hid hl
  clear hl
  by_cases h0 : n = 0
  · rw [if_pos h0]
    have h0' : ((n : Int) == 0) = true := by simp [h0]
    clear h0
    go_enter Try.func28, Try.ntmps28
    go_wp2
    refine bodyPost_ret (results4 rfl _ _ _) rfl ?_
    exact ⟨_, rfl, Own.nil (Below.refl _ _)⟩
  · rw [if_neg h0]
    have h0' : ((n : Int) == 0) = false := by simp [h0]
    have hd := fun A' (hr' : Rd .u8 w w.heap.size A' (n - 1) (xs.drop 1)) => decodeUint_any (c := c - 1) w hr' (drop_byte 1 hx) (by omega)
    have hbd := decU_bd (xs.drop 1)
    have her := (decU_err (xs.drop 1)).1
    rw [List.length_drop, HL.out] at hbd
    generalize decU (xs.drop 1) = r at *
    obtain ⟨u, k, er⟩ := r
    have HD := Lib.hid hd
    have Hx := Lib.hid hx
    clear hd hx
    simp only at hbd her ⊢
    by_cases he : er = 0
    · rw [if_neg (by simp [he])]
      obtain ⟨h1, h2, h3, h4⟩ := hbd he
      subst he
      clear hbd
      by_cases hu : 1048576 < u
      · rw [if_pos hu]
        go_enter Try.func28, Try.ntmps28
        go_wp2_with (refine wpList_cut_l (klo := .i64) (l := 1) Try.elemU8 Try.underlying23 hr rfl rfl rfl rfl (by omega) hnc ?_)
        intro A' hr'
        rw [← List.drop_one] at hr'
        go_wp2_with fail
        refine (HD.out _ hr').mono ?_
        rintro e w1 ⟨rfl, rfl⟩
        go_wp2
        refine bodyPost_ret (results4 rfl _ _ _) rfl ?_
        exact ⟨_, rfl, Own.nil (Below.refl _ _)⟩
      · rw [if_neg hu]
        by_cases hcut : n - (1 + k) < u + 4
        · rw [if_pos hcut]
          go_enter Try.func28, Try.ntmps28
          go_wp2_with (refine wpList_cut_l (klo := .i64) (l := 1) Try.elemU8 Try.underlying23 hr rfl rfl rfl rfl (by omega) hnc ?_)
          intro A' hr'
          rw [← List.drop_one] at hr'
          go_wp2_with fail
          refine (HD.out _ hr').mono ?_
          rintro e w1 ⟨rfl, rfl⟩
          go_wp2
          refine bodyPost_ret (results4 rfl _ _ _) rfl ?_
          exact ⟨_, rfl, Own.nil (Below.refl _ _)⟩
        · rw [if_neg hcut]
          obtain ⟨en, hen⟩ : ∃ en, en = 1 + k + u := ⟨_, rfl⟩
          rw [← hen]
          have hck := fun A' (r' : Rd .u8 w w.heap.size A' en (xs.take en)) => checksum_any (c := c) w r' (Nat.le_refl _) (take_byte en Hx.out) (by omega)
          have hcl := crc_lt' (xs.take en)
          have h4l : ((xs.drop en).take 4).length = 4 := by rw [List.length_take, List.length_drop, HL.out]; omega
          have h4b := take_byte 4 (drop_byte en Hx.out)
          have hbe := be4_eq _ h4l h4b _ hcl
          generalize crc (xs.take en) = sm at *
          have HK := Lib.hid hck
          have HB := Lib.hid hbe
          have H4 := Lib.hid h4b
          have hen1 : en ≤ 1 + k + u := by omega
          have hen2 : 1 + k + u ≤ en := by omega
          have HE := Lib.hid hen
          generalize hR : (if (xs.drop en).take 4 = sum4 sm then (xs.getD 0 0, (xs.drop (1 + k)).take u, en + 4, 0) else (0, ([] : List Nat), 0, 4)) = R
          have HR := Lib.hid hR
          clear hck hbe h4b hen hR
          go_enter Try.func28, Try.ntmps28
          go_wp2_with (refine wpList_cut_l (klo := .i64) (l := 1) Try.elemU8 Try.underlying23 hr rfl rfl rfl rfl (by omega) hnc ?_)
          intro A' hr'
          rw [← List.drop_one] at hr'
          go_wp2_with fail
          refine (HD.out _ hr').mono ?_
          rintro e w1 ⟨rfl, rfl⟩
          clear hr' HD
          have hsum : (1 : Int) + k + u = en := by omega
          go_wp2_with (refine wpList_cut_lh (klo := .i64) (khi := .i64) (l := en) (j := en + 4) Try.elemU8 Try.underlying23 hr rfl rfl rfl rfl (congrArg (Value.int .i64) (by omega)) (by omega) (by omega) hnc ?_)
          intro A2 r2
          have hl4 := Lib.hid r2.len
          go_wp2
          go_loop [10, 12, 46] (fun sv _ i => ∃ j : Nat, j ≤ 4 ∧ i = .int .i64 j ∧ ∃ t : Nat, sv = .int .u32 t ∧ t < 256 ^ j ∧ Hid (be (((xs.drop en).take 4).take j) = t)) (fun _ _ i => 4 - (intOf i).toNat)
          case atStart => exact ⟨0, by omega, rfl, 0, rfl, by omega, rfl⟩
          case round =>
            obtain ⟨j, hj, rfl, t, rfl, ht, HT⟩ := hrel
            have Ht := Lib.hid ht
            clear ht
            by_cases hj4 : j < 4
            · obtain ⟨b2, off2, rfl, _, hc2⟩ := r2.at_ (j := j) (by omega)
              have hts := take_getD ((xs.drop en).take 4) j (by rw [h4l]; exact hj4)
              have hy := getD_lt ((xs.drop en).take 4) j 256 H4.out (by omega)
              have HS : Hid (be (((xs.drop en).take 4).take (j + 1)) = t * 256 + ((xs.drop en).take 4).getD j 0) := by
                unfold Hid; rw [hts, be_snoc, HT.out]
              clear hts
              generalize ((xs.drop en).take 4).getD j 0 = y at *
              obtain ⟨e1, e2, e3⟩ := be_step t y j hj4 Ht.out hy
              have E3 := Lib.hid e3
              clear e3
              generalize hm : t * 256 = m at *
              generalize hq : m + y = q at *
              have HM := Lib.hid hm
              have HQ := Lib.hid hq
              clear hm hq
              go_wp2
              go_round
              case rel => exact ⟨j + 1, by omega, by go_num, q, rfl, E3.out, HS.out⟩
              case measure => simp [intOf]; omega
            · obtain rfl : j = 4 := by omega
              rw [List.take_of_length_le (i := 4) (by rw [h4l]; omega)] at HT
              clear Ht
              go_wp2_with (refine wpList_cut_h (khi := .i64) (j := en) Try.elemU8 Try.underlying23 hr rfl rfl rfl rfl (by omega) hnc ?_)
              intro A3 r3
              go_wp2_with fail
              refine (HK.out _ r3).mono ?_
              rintro e w4 ⟨rfl, b4⟩
              have r4 := hr.call b4
              clear r3 HK
              by_cases hts : t = sm
              · have hne : ((t : Int) != (sm : Int)) = false := by simp [hts]
                have HTS := Lib.hid hts
                clear hts
                go_wp2
                obtain ⟨b0, off0, rfl, lt0, hc0⟩ := r4.at_ (j := 0) (by omega)
                simp only [Nat.add_zero] at hc0
                have hne2 : ¬ c = 1 + k := by omega
                have q1 : 0 < n := by omega
                have q1' : (0 : Int) < (n : Int) := by omega
                have q2 : (0 : Int) ≤ 1 + (k : Int) := by omega
                have q3 : 1 + (k : Int) ≤ (en : Int) := by omega
                have q4 : (en : Int) ≤ (c : Int) := by omega
                have q5 : (1 + (k : Int)).toNat = 1 + k := by omega
                have q6 : IntKind.i64.wrap ((en : Int) + 4) = (en : Int) + 4 := IntWalk.i64_in _ (by omega)
                go_region_held3 (fun w' => w'.cell? ⟨b0, off0, none⟩ = some (.int .u8 ((xs.getD 0 0 : Nat) : Int))) (first | (go_keep; done) | (rw [(below_grown_nil g5).cell (p := ⟨b0, off0, none⟩) lt0]; assumption))
                  ((refine step_append_lst Try.elemU8 Try.underlying23 (Own.nil b4.drew) (r4.sub (i := 1 + k) (j := en) rfl (by omega) (by omega)).drew (by rfl) (by rfl) (by rfl) (by rfl) (by simp; omega) (by simp; omega) ?_; intro v5 w5 o5 g5 _))
                go_wp2
                refine bodyPost_ret (results4 rfl _ _ _) rfl ?_
                rw [← HR.out, if_pos (HB.out.1 (by rw [HT.out]; exact HTS.out))]
                refine ⟨v5, rfl, ?_⟩
                have e5 : en - (1 + k) = u := by omega
                rw [e5] at o5
                exact o5
              · have hne : ((t : Int) != (sm : Int)) = true := by simp; omega
                go_wp2
                refine bodyPost_ret (results4 rfl _ _ _) rfl ?_
                rw [← HR.out, if_neg (fun h => hts (by rw [← HT.out]; exact HB.out.2 h))]
                exact ⟨_, rfl, Own.nil b4⟩
    · rw [if_pos he]
      have he' : ((er : Int) != 0) = true := by simp [he]
      clear hbd
      go_enter Try.func28, Try.ntmps28
      go_wp2_with (refine wpList_cut_l (klo := .i64) (l := 1) Try.elemU8 Try.underlying23 hr rfl rfl rfl rfl (by omega) hnc ?_)
      intro A' hr'
      rw [← List.drop_one] at hr'
      go_wp2_with fail
      refine (HD.out _ hr').mono ?_
      rintro e w1 ⟨rfl, rfl⟩
      go_wp2
      refine bodyPost_ret (results4 rfl _ _ _) rfl ?_
      exact ⟨_, rfl, Own.nil (Below.refl _ _)⟩
end Go.Proofs.Ythiihejbjfmbkaa
