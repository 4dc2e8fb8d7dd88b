/- The walks of DecodeText. -/
import Derived.Test.YthiihejbjfmbkaaWireDec
import Derived.Test.YthiihejbjfmbkaaWireEnc
namespace Go.Proofs.Ythiihejbjfmbkaa
open Go.RowKit
set_option maxRecDepth 100000 in
theorem decodeText_any {A : Option Addr} {n c B : Nat} {xs : List Nat} (w : World) (hr : Rd .u8 w B A n xs) (hx : ∀ x ∈ xs, x < 256) (hnc : n ≤ c) (hn : c ≤ 9223372036854775807) :
    Calls Try.prog 24 #[.slice A n c] w (RetDecT (decT xs) w) := by
  have hd := decodeUint_any (c := c) w hr hx (by omega)
  have hbd := decU_bd xs
  have her := (decU_err xs).1
  have hlen := hr.len
  unfold decT
  generalize decU xs = r at *
  obtain ⟨u, k, er⟩ := r
  have HD := Lib.hid hd
  clear hd hx
  simp only at hbd her ⊢
  by_cases h0 : er = 0
  · rw [if_neg (by simp [h0])]
    obtain ⟨h1, h2, h3, h4⟩ := hbd h0
    subst h0
    rw [hlen] at h3 ⊢
    have HL := Lib.hid hlen
    clear hbd hlen
    by_cases ht : 20000 < u
    · rw [if_pos ht]
      go_enter Try.func24, Try.ntmps24
      go_wp2_with fail
      refine HD.out.mono ?_
      rintro e w1 ⟨rfl, rfl⟩
      go_wp2
      go_ret3
      exact ⟨rfl, rfl⟩
    · rw [if_neg ht]
      by_cases hc : n - k < u
      · rw [if_pos hc]
        go_enter Try.func24, Try.ntmps24
        go_wp2_with fail
        refine HD.out.mono ?_
        rintro e w1 ⟨rfl, rfl⟩
        go_wp2
        go_ret3
        exact ⟨rfl, rfl⟩
      · rw [if_neg hc]
        go_enter Try.func24, Try.ntmps24
        go_wp2_with fail
        refine HD.out.mono ?_
        rintro e w1 ⟨rfl, rfl⟩
        go_wp2_with (refine wpList_cut_lh (l := k) (j := k + u) (klo := .i64) (khi := .i64) Try.elemU8 Try.underlying23 hr rfl rfl rfl rfl (congrArg (Value.int .i64) (by omega)) (by omega) (by omega) (by omega) ?_)
        intro A' hr'
        go_wp2_with (refine wpList_string_rd Try.underlying23 Try.underlying5 Try.underlying9 hr' rfl rfl rfl ?_)
        go_ret3
        exact ⟨rfl, rfl⟩
  · rw [if_pos h0]
    have h0' : ((er : Int) != 0) = true := by simp [h0]
    clear hbd
    go_enter Try.func24, Try.ntmps24
    go_wp2_with fail
    refine HD.out.mono ?_
    rintro e w1 ⟨rfl, rfl⟩
    go_wp2
    go_ret3
    exact ⟨rfl, rfl⟩
set_option maxRecDepth 100000 in
theorem refDecodeText_any {A : Option Addr} {n c B : Nat} {xs : List Nat} (w : World) (hr : Rd .u8 w B A n xs) (hx : ∀ x ∈ xs, x < 256) (hnc : n ≤ c) (hn : c ≤ 9223372036854775807) :
    Calls Try.prog 25 #[.slice A n c] w (RetDecT (decT xs) w) := by
  have hd := refDecodeUint_any (c := c) w hr hx (by omega)
  have hbd := decU_bd xs
  have her := (decU_err xs).1
  have hlen := hr.len
  unfold decT
  generalize decU xs = r at *
  obtain ⟨u, k, er⟩ := r
  have HD := Lib.hid hd
  clear hd hx
  simp only at hbd her ⊢
  by_cases h0 : er = 0
  · rw [if_neg (by simp [h0])]
    obtain ⟨h1, h2, h3, h4⟩ := hbd h0
    subst h0
    rw [hlen] at h3 ⊢
    have HL := Lib.hid hlen
    clear hbd hlen
    by_cases ht : 20000 < u
    · rw [if_pos ht]
      go_enter Try.func25, Try.ntmps25
      go_wp2_with fail
      refine HD.out.mono ?_
      rintro e w1 ⟨rfl, rfl⟩
      go_wp2
      go_ret3
      exact ⟨rfl, rfl⟩
    · rw [if_neg ht]
      by_cases hc : n - k < u
      · rw [if_pos hc]
        go_enter Try.func25, Try.ntmps25
        go_wp2_with fail
        refine HD.out.mono ?_
        rintro e w1 ⟨rfl, rfl⟩
        go_wp2
        go_ret3
        exact ⟨rfl, rfl⟩
      · rw [if_neg hc]
        go_enter Try.func25, Try.ntmps25
        go_wp2_with fail
        refine HD.out.mono ?_
        rintro e w1 ⟨rfl, rfl⟩
        go_wp2_with (refine wpList_cut_lh (l := k) (j := k + u) (klo := .i64) (khi := .i64) Try.elemU8 Try.underlying23 hr rfl rfl rfl rfl (congrArg (Value.int .i64) (by omega)) (by omega) (by omega) (by omega) ?_)
        intro A' hr'
        go_wp2_with (refine wpList_string_rd Try.underlying23 Try.underlying5 Try.underlying9 hr' rfl rfl rfl ?_)
        go_ret3
        exact ⟨rfl, rfl⟩
  · rw [if_pos h0]
    have h0' : ((er : Int) != 0) = true := by simp [h0]
    clear hbd
    go_enter Try.func25, Try.ntmps25
    go_wp2_with fail
    refine HD.out.mono ?_
    rintro e w1 ⟨rfl, rfl⟩
    go_wp2
    go_ret3
    exact ⟨rfl, rfl⟩
end Go.Proofs.Ythiihejbjfmbkaa
