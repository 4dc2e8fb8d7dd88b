/- Walks of Light and awake. -/
import Derived.Test.YteicjbinginamaaDoorSame
import Derived.Test.YteicjbinginamaaDoorFormat
import Derived.Test.YteicjbinginamaaDoorDivMod
namespace Go.Proofs.YteicjbinginamaaDoor
open Go.RowKit
set_option linter.unusedVariables false

theorem sum_take (ns : List Nat) (k : Nat) (h : k < ns.length) : (ns.take (k + 1)).sum = (ns.take k).sum + ns.getD k 0 := by
  rw [take_getD ns k h]; simp
theorem sum_take_le (ns : List Nat) (k : Nat) : (ns.take k).sum ≤ ns.sum := by
  conv => rhs; rw [← List.take_append_drop k ns, List.sum_append]
  omega

set_option maxHeartbeats 1000000 in
set_option maxRecDepth 100000 in
theorem light_any (g : Nat) (ns : List Nat) (N : Nat) (hN : ns.length = N) (w : World) (hc : ∀ i, i < ns.length → ∃ A c, w.cell? ⟨g, i * 2 + 1, none⟩ = some (.slice A (ns.getD i 0) c)) (hs : ns.sum ≤ 4611686018427387904) (hl : N ≤ 1000) :
    Calls Tryd.prog 12 #[.slice (some ⟨g, 0, none⟩) N N] w (RetV w (.bool (decide (ns.sum ≤ 60)))) := by
  have HC := Lib.hid hc
  have HN := Lib.hid hN
  clear hc hN
  go_enter Tryd.func12, Tryd.ntmps12
  go_wp2_with fail
  go_loop [3, 4] (fun nv i => ∃ k : Nat, k ≤ N ∧ i = .int .i64 (k : Int) ∧ nv = .int .i64 ((ns.take k).sum : Nat)) (fun _ i => N - (intOf i).toNat)
  case atStart => exact ⟨0, by omega, rfl, rfl⟩
  case round =>
    obtain ⟨k, hk, rfl, rfl⟩ := hrel
    have hle := sum_take_le ns k
    by_cases h0 : k < N
    · obtain ⟨A, c, hcell⟩ := HC.out k (by rw [HN.out]; exact h0)
      have HS := Lib.hid (sum_take ns k (by rw [HN.out]; exact h0))
      have hle2 := sum_take_le ns (k + 1)
      rw [HS.out] at hle2
      generalize ns.getD k 0 = x at *
      obtain ⟨z, hz⟩ : ∃ z, z = (ns.take (k + 1)).sum := ⟨_, rfl⟩
      have HZ := Lib.hid hz
      rw [← hz] at HS
      clear hz
      generalize (ns.take k).sum = y at *
      generalize ns.sum = S at *
      have i1 : (0 : Int) ≤ (k : Int) := by omega
      have i2 : (k : Int) < (N : Int) := by omega
      go_wp2
      go_round
      case rel => exact ⟨k + 1, by omega, by go_num, by rw [← HZ.out, HS.out]; go_num⟩
      case measure => simp [intOf] <;> omega
    · obtain rfl : k = N := by omega
      have HE : Hid ((ns.take k).sum = ns.sum) := by unfold Hid; rw [List.take_of_length_le (by rw [HN.out]; omega)]
      rw [HE.out]
      clear HE
      generalize ns.sum = S at *
      go_wp2
      go_ret
      exact ⟨by simp <;> omega, Below.refl _ _⟩

theorem CInt.len_le {w : World} {neg : Bool} {A : Option Addr} {n c : Nat} {z : Int} (h : CInt w neg A n c z) {k : Nat} (hk : z.natAbs < 4294967296 ^ k) : n ≤ k := by
  rw [← h.1.len]; exact digits_len_le hk
theorem str_m4 : strOf (decz true (Int.natAbs (-4))) = ⟨#[45, 52]⟩ := by rw [decz, if_pos (by decide), show Int.natAbs (-4) = 4 from rfl, dec_small (by omega)]; rfl
theorem str_1 : strOf (decz false (Int.natAbs 1)) = ⟨#[49]⟩ := by rw [decz, if_neg (by decide), show Int.natAbs 1 = 1 from rfl, dec_small (by omega)]; rfl

set_option maxHeartbeats 1000000 in
set_option maxRecDepth 100000 in
theorem awake_any (w : World) (ht : Tab w) : Calls Tryd.prog 13 #[] w (RetV w (.bool true)) := by
  have H1 := Lib.hid (fromInt64_any (-7) w (by omega) (by omega))
  have H2 := Lib.hid (fun W => fromInt64_any 2 W (by omega) (by omega))
  go_enter Tryd.func13, Tryd.ntmps13
  go_wp2_with fail
  refine H1.out.mono ?_
  rintro e w1 ⟨s1, A1, n1, c1, rfl, i1, b1⟩
  go_wp2_with fail
  refine (H2.out _).mono ?_
  rintro e w2 ⟨s2, A2, n2, c2, rfl, i2, b2⟩
  have l1 := i1.len_le (k := 1) (by decide)
  have l2 := i2.len_le (k := 1) (by decide)
  have H3 := Lib.hid (divMod_any w2 (i1.call b2).any i2.any (by omega) (by omega))
  have bW := bthen b1 b2
  clear H1 H2 i1 i2 l1 l2 b1 b2
  go_wp2_with fail
  refine H3.out.mono ?_
  rintro e w3 ⟨s3, A3, n3, c3, s4, A4, n4, c4, code, rfl, i3, i4, rfl, b3⟩
  rw [if_neg (by decide)] at i4
  rw [show Int.fdiv (-7) 2 = -4 from rfl] at i3
  rw [show Int.fmod (-7) 2 = 1 from rfl] at i4
  have l3 := i3.len_le (k := 1) (by decide)
  have l4 := i4.len_le (k := 1) (by decide)
  obtain rfl : s3 = true := i3.2.1
  obtain rfl : s4 = false := i4.2.1
  replace bW := bthen bW b3
  clear H3 b3
  have H4 := Lib.hid (fun W (h : CInt W true A3 n3 c3 (-4)) (t : Tab W) => format_any W h.any (by omega) t)
  have H5 := Lib.hid (fun W (h : CInt W false A4 n4 c4 1) (t : Tab W) => format_any W h.any (by omega) t)
  rw [str_m4] at H4
  rw [str_1] at H5
  obtain ⟨W, hW, bX, pa, pb⟩ := boxes2' w3 true false A3 A4 n3 n4 c3 c4
  obtain ⟨a0, a1, b0, b1⟩ := pa.cells pb
  have tX := ht.call (bthen bW bX)
  go_wp2_with fail
  rw [← hW]
  clear hW
  refine (H4.out _ (i3.call bX) tX).mono ?_
  rintro e w5 ⟨rfl, b5⟩
  obtain ⟨a0, a1, b0, b1⟩ := (pa.call b5).cells (pb.call b5)
  go_wp2_with fail
  refine (H5.out _ ((i4.call bX).call b5) (tX.call b5)).mono ?_
  rintro e w6 ⟨rfl, b6⟩
  go_wp2
  go_ret
  exact ⟨rfl, bthen (bthen (bthen bW bX) b5) b6⟩
end Go.Proofs.YteicjbinginamaaDoor
