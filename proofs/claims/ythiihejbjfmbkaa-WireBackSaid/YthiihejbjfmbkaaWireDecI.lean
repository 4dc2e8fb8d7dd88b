/- The walks of DecodeInt and DecodeText. -/
import Derived.Test.YthiihejbjfmbkaaWireDec
namespace Go.Proofs.Ythiihejbjfmbkaa
open Go.RowKit
set_option maxRecDepth 100000 in
theorem decodeInt_any {A : Option Addr} {n c B : Nat} {xs : List Nat} (w : World) (hr : Rd .u8 w B A n xs) (hx : ∀ x ∈ xs, x < 256) (hn : n ≤ 9223372036854775807) :
    Calls Try.prog 22 #[.slice A n c] w (RetDecI (decI xs) w) := by
  have hd := decodeUint_any (c := c) w hr hx hn
  have hbd := decU_bd xs
  have her := (decU_err xs).1
  unfold decI
  generalize decU xs = r at *
  obtain ⟨u, k, er⟩ := r
  have HD := Lib.hid hd
  clear hd
  simp only at hbd her ⊢
  by_cases h0 : er = 0
  · rw [if_pos h0]
    obtain ⟨h1, h2, h3, h4⟩ := hbd h0
    subst h0
    clear hbd
    by_cases hp : u % 2 = 1
    · have fin : unzig u = -((u : Int) / 2 + 1) := by unfold unzig; rw [if_pos hp]; omega
      have HF := Lib.hid fin
      have hp' : (u : Int) % 2 = 1 := by omega
      clear fin hp
      go_enter Try.func22, Try.ntmps22
      go_wp2_with fail
      refine HD.out.mono ?_
      rintro e w1 ⟨rfl, rfl⟩
      go_wp2
      go_ret3
      rw [HF.out]
      exact ⟨rfl, rfl⟩
    · have fin : unzig u = (u : Int) / 2 := by unfold unzig; rw [if_neg hp]; omega
      have HF := Lib.hid fin
      have hp' : (u : Int) % 2 = 0 := by omega
      clear fin hp
      go_enter Try.func22, Try.ntmps22
      go_wp2_with fail
      refine HD.out.mono ?_
      rintro e w1 ⟨rfl, rfl⟩
      go_wp2
      go_ret3
      rw [HF.out]
      exact ⟨rfl, rfl⟩
  · rw [if_neg h0]
    have h0' : ((er : Int) != 0) = true := by simp [h0]
    clear hbd
    go_enter Try.func22, Try.ntmps22
    go_wp2_with fail
    refine HD.out.mono ?_
    rintro e w1 ⟨rfl, rfl⟩
    go_wp2
    go_ret3
    exact ⟨rfl, rfl⟩

set_option maxRecDepth 100000 in
theorem refDecodeInt_any {A : Option Addr} {n c B : Nat} {xs : List Nat} (w : World) (hr : Rd .u8 w B A n xs) (hx : ∀ x ∈ xs, x < 256) (hn : n ≤ 9223372036854775807) :
    Calls Try.prog 23 #[.slice A n c] w (RetDecI (decI xs) w) := by
  have hd := refDecodeUint_any (c := c) w hr hx hn
  have hbd := decU_bd xs
  have her := (decU_err xs).1
  unfold decI
  generalize decU xs = r at *
  obtain ⟨u, k, er⟩ := r
  have HD := Lib.hid hd
  clear hd
  simp only at hbd her ⊢
  by_cases h0 : er = 0
  · rw [if_pos h0]
    obtain ⟨h1, h2, h3, h4⟩ := hbd h0
    subst h0
    clear hbd
    by_cases hp : u % 2 = 1
    · have fin : unzig u = -((u : Int) / 2) - 1 := by unfold unzig; rw [if_pos hp]; omega
      have HF := Lib.hid fin
      have hp' : (u : Int) % 2 = 1 := by omega
      have hl1 : decide (-((u : Int) / 2) - 1 < -2305843009213693952) = false := by simp; omega
      have hl2 : decide (2305843009213693952 < -((u : Int) / 2) - 1) = false := by simp; omega
      clear fin hp
      go_enter Try.func23, Try.ntmps23
      go_wp2_with fail
      refine HD.out.mono ?_
      rintro e w1 ⟨rfl, rfl⟩
      go_wp2
      go_ret3
      rw [HF.out]
      exact ⟨rfl, rfl⟩
    · have fin : unzig u = (u : Int) / 2 := by unfold unzig; rw [if_neg hp]; omega
      have HF := Lib.hid fin
      have hp' : (u : Int) % 2 = 0 := by omega
      have hl1 : decide ((u : Int) / 2 < -2305843009213693952) = false := by simp; omega
      have hl2 : decide (2305843009213693952 < (u : Int) / 2) = false := by simp; omega
      clear fin hp
      go_enter Try.func23, Try.ntmps23
      go_wp2_with fail
      refine HD.out.mono ?_
      rintro e w1 ⟨rfl, rfl⟩
      go_wp2
      go_ret3
      rw [HF.out]
      exact ⟨rfl, rfl⟩
  · rw [if_neg h0]
    have h0' : ((er : Int) != 0) = true := by simp [h0]
    clear hbd
    go_enter Try.func23, Try.ntmps23
    go_wp2_with fail
    refine HD.out.mono ?_
    rintro e w1 ⟨rfl, rfl⟩
    go_wp2
    go_ret3
    exact ⟨rfl, rfl⟩
end Go.Proofs.Ythiihejbjfmbkaa
