/- The walks of the decoders. -/
import Derived.Test.YthiihejbjfmbkaaProg
import Derived.Test.YthiihejbjfmbkaaWireDecPlain
namespace Go.Proofs.Ythiihejbjfmbkaa
open Go.RowKit
set_option maxRecDepth 100000 in
theorem decodeUint_any {A : Option Addr} {n c B : Nat} {xs : List Nat} (w : World) (hr : Rd .u8 w B A n xs) (hx : ∀ x ∈ xs, x < 256) (hn : n ≤ 9223372036854775807) :
    Calls Try.prog 20 #[.slice A n c] w (RetDec (decU xs) w) := by
  have HX := Lib.hid hx
  have HL := Lib.hid hr.len
  clear hx
  go_enter Try.func20, Try.ntmps20
  go_wp2
  go_loop [2, 5, 6] (fun m _ i => ∃ k t : Nat, k ≤ 9 ∧ i = .int .i64 k ∧ k ≤ n ∧ m = .int .i64 t ∧ t < 2 ^ (7 * k) ∧ Hid (decGo (9 - k) (xs.drop k) k t = decU xs)) (fun _ _ i => 9 - (intOf i).toNat)
  case atStart => exact ⟨0, 0, by omega, rfl, by omega, rfl, by omega, rfl⟩
  case round =>
    obtain ⟨k, t, hk, rfl, hkn, rfl, ht, HE⟩ := hrel
    have HT := Lib.hid ht
    clear ht
    by_cases h9 : k < 9
    · by_cases hlt : k < n
      · obtain ⟨b, off, rfl, hbB, hc⟩ := hr.at_ hlt
        have hy := getD_lt xs k 256 HX.out (by omega)
        have hd := drop_getD xs k (by rw [HL.out]; exact hlt)
        rw [hd, show 9 - k = (9 - (k + 1)) + 1 by omega] at HE
        clear hd
        generalize xs.getD k 0 = y at *
        have e2 := u8_and128 y hy
        have M' := Lib.hid (decGo_more (9 - (k + 1)) y k t (xs.drop (k + 1)))
        have B' := Lib.hid (decGo_bad (9 - (k + 1)) y k t (xs.drop (k + 1)))
        have G' := Lib.hid (decGo_good (9 - (k + 1)) y k t (xs.drop (k + 1)))
        obtain ⟨z, p, q, e1, hz, e3, _, e4, _, hq, hg, hqe⟩ := dec_facts y t k hy h9 HT.out
        rw [← hqe] at M' B' G'
        have HG := Lib.hid hg
        clear hg hqe
        by_cases ha : 128 ≤ y
        · rw [if_pos ha] at e2
          go_wp2
          go_round
          case rel => exact ⟨k + 1, q, by omega, by go_num, by omega, rfl, HG.out, (M'.out ha).symm.trans HE.out⟩
          case measure => simp [intOf]; omega
        · rw [if_neg ha] at e2
          by_cases hb : y = 0 ∧ 0 < k
          · have HB := Lib.hid hb
            have hb0 : ((y : Int) == 0) = true := by simp [hb.1]
            have hk0 : 0 < k := hb.2
            clear hb
            go_wp2
            go_ret3
            rw [← HE.out, B'.out (by omega) (.inl HB.out)]
            exact ⟨rfl, rfl⟩
          · have HB := Lib.hid hb
            by_cases hq2 : 4611686018427387904 < q
            · have fin : RetDec (decU xs) w (.returned (.tuple #[.int .i64 0, .int .i64 0, .int .i64 2])) w := by
                rw [← HE.out, B'.out (by omega) (.inr hq2)]
                exact ⟨rfl, rfl⟩
              have FIN := Lib.hid fin
              clear fin hb
              by_cases hy0 : y = 0
              · have hb0 : ((y : Int) == 0) = true := by simp [hy0]
                have hk0 : ¬ 0 < k := fun h => HB.out ⟨hy0, h⟩
                clear hy0
                go_wp2
                go_ret3
                exact FIN.out
              · have hb0 : ((y : Int) == 0) = false := by simp [hy0]
                go_wp2
                go_ret3
                exact FIN.out
            · have fin : RetDec (decU xs) w (.returned (.tuple #[.int .i64 q, .int .i64 ((k + 1 : Nat) : Int), .int .i64 0])) w := by
                rw [← HE.out, G'.out (by omega) (by rintro (h | h); exact HB.out h; exact hq2 h)]
                exact ⟨rfl, rfl⟩
              have FIN := Lib.hid fin
              clear fin hb
              by_cases hy0 : y = 0
              · have hb0 : ((y : Int) == 0) = true := by simp [hy0]
                have hk0 : ¬ 0 < k := fun h => HB.out ⟨hy0, h⟩
                clear hy0
                go_wp2
                go_ret3
                exact FIN.out
              · have hb0 : ((y : Int) == 0) = false := by simp [hy0]
                go_wp2
                go_ret3
                exact FIN.out
      · have fin : RetDec (decU xs) w (.returned (.tuple #[.int .i64 0, .int .i64 0, .int .i64 3])) w := by
          rw [← HE.out, List.drop_eq_nil_of_le (by rw [HL.out]; omega), show 9 - k = (9 - (k + 1)) + 1 by omega, decGo_nil]
          exact ⟨rfl, rfl⟩
        have FIN := Lib.hid fin
        clear fin
        go_wp2
        go_ret3
        exact FIN.out
    · have fin : RetDec (decU xs) w (.returned (.tuple #[.int .i64 0, .int .i64 0, .int .i64 2])) w := by
        rw [← HE.out, show 9 - k = 0 by omega]
        exact ⟨rfl, rfl⟩
      have FIN := Lib.hid fin
      clear fin
      go_wp2
      go_ret3
      exact FIN.out

set_option maxRecDepth 100000 in
theorem refDecodeUint_any {A : Option Addr} {n c B : Nat} {xs : List Nat} (w : World) (hr : Rd .u8 w B A n xs) (hx : ∀ x ∈ xs, x < 256) (hn : n ≤ 9223372036854775807) :
    Calls Try.prog 21 #[.slice A n c] w (RetDec (decU xs) w) := by
  have HX := Lib.hid hx
  have HL := Lib.hid hr.len
  clear hx
  go_enter Try.func21, Try.ntmps21
  go_wp2
  go_loop [5, 6] (fun m i => ∃ k t : Nat, k ≤ 8 ∧ i = .int .i64 k ∧ k ≤ n ∧ m = .int .u64 t ∧ t < 2 ^ (7 * k) ∧ Hid (decGo (9 - k) (xs.drop k) k t = decU xs)) (fun _ i => 9 - (intOf i).toNat)
  case atStart => exact ⟨0, 0, by omega, rfl, by omega, rfl, by omega, rfl⟩
  case round =>
    obtain ⟨k, t, hk, rfl, hkn, rfl, ht, HE⟩ := hrel
    have HT := Lib.hid ht
    clear ht
    by_cases hlt : k < n
    · obtain ⟨b, off, rfl, hbB, hc⟩ := hr.at_ hlt
      have hy := getD_lt xs k 256 HX.out (by omega)
      have hd := drop_getD xs k (by rw [HL.out]; exact hlt)
      rw [hd, show 9 - k = (9 - (k + 1)) + 1 by omega] at HE
      clear hd
      generalize xs.getD k 0 = y at *
      have M' := Lib.hid (decGo_more (9 - (k + 1)) y k t (xs.drop (k + 1)))
      have B' := Lib.hid (decGo_bad (9 - (k + 1)) y k t (xs.drop (k + 1)))
      have G' := Lib.hid (decGo_good (9 - (k + 1)) y k t (xs.drop (k + 1)))
      obtain ⟨z, p, q, e1, hz, _, e3, _, e4, hq, hg, hqe⟩ := dec_facts y t k hy (by omega) HT.out
      rw [← hqe] at M' B' G'
      have HG := Lib.hid hg
      clear hg hqe
      by_cases ha : 127 < y
      · by_cases h8 : k = 8
        · have fin : RetDec (decU xs) w (.returned (.tuple #[.int .i64 0, .int .i64 0, .int .i64 2])) w := by
            rw [← HE.out, M'.out (by omega), h8]
            exact ⟨rfl, rfl⟩
          have FIN := Lib.hid fin
          have hk8 : ((k : Int) == 8) = true := by simp [h8]
          clear fin h8
          go_wp2
          go_ret3
          exact FIN.out
        · have hk8 : ((k : Int) == 8) = false := by simp; omega
          go_wp2
          go_round
          case rel => exact ⟨k + 1, q, by omega, by go_num, by omega, rfl, HG.out, (M'.out (by omega)).symm.trans HE.out⟩
          case measure => simp [intOf]; omega
      · by_cases hb : y = 0 ∧ 0 < k
        · have HB := Lib.hid hb
          have hb0 : ((y : Int) == 0) = true := by simp [hb.1]
          have hk0 : 0 < k := hb.2
          have ha' : ¬ 127 < y := ha
          clear hb
          have fin : RetDec (decU xs) w (.returned (.tuple #[.int .i64 0, .int .i64 0, .int .i64 2])) w := by
            rw [← HE.out, B'.out (by omega) (.inl HB.out)]
            exact ⟨rfl, rfl⟩
          have FIN := Lib.hid fin
          clear fin
          go_wp2
          go_ret3
          exact FIN.out
        · have HB := Lib.hid hb
          by_cases hq2 : 4611686018427387904 < q
          · have fin : RetDec (decU xs) w (.returned (.tuple #[.int .i64 0, .int .i64 0, .int .i64 2])) w := by
              rw [← HE.out, B'.out (by omega) (.inr hq2)]
              exact ⟨rfl, rfl⟩
            have FIN := Lib.hid fin
            clear fin hb
            by_cases hy0 : y = 0
            · have hb0 : ((y : Int) == 0) = true := by simp [hy0]
              have hk0 : ¬ 0 < k := fun h => HB.out ⟨hy0, h⟩
              clear hy0
              go_wp2
              go_ret3
              exact FIN.out
            · have hb0 : ((y : Int) == 0) = false := by simp [hy0]
              go_wp2
              go_ret3
              exact FIN.out
          · have fin : RetDec (decU xs) w (.returned (.tuple #[.int .i64 q, .int .i64 ((k + 1 : Nat) : Int), .int .i64 0])) w := by
              rw [← HE.out, G'.out (by omega) (by rintro (h | h); exact HB.out h; exact hq2 h)]
              exact ⟨rfl, rfl⟩
            have FIN := Lib.hid fin
            clear fin hb
            by_cases hy0 : y = 0
            · have hb0 : ((y : Int) == 0) = true := by simp [hy0]
              have hk0 : ¬ 0 < k := fun h => HB.out ⟨hy0, h⟩
              clear hy0
              go_wp2
              go_ret3
              exact FIN.out
            · have hb0 : ((y : Int) == 0) = false := by simp [hy0]
              go_wp2
              go_ret3
              exact FIN.out
    · have fin : RetDec (decU xs) w (.returned (.tuple #[.int .i64 0, .int .i64 0, .int .i64 3])) w := by
        rw [← HE.out, List.drop_eq_nil_of_le (by rw [HL.out]; omega), show 9 - k = (9 - (k + 1)) + 1 by omega, decGo_nil]
        exact ⟨rfl, rfl⟩
      have FIN := Lib.hid fin
      clear fin
      go_wp2
      go_ret3
      exact FIN.out
end Go.Proofs.Ythiihejbjfmbkaa
