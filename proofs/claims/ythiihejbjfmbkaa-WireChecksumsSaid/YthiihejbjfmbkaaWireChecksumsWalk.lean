/- The walk of the law WireChecksums. -/
import Derived.Test.YthiihejbjfmbkaaWireAwake
import Derived.Test.YthiihejbjfmbkaaCrc
import Derived.Test.YthiihejbjfmbkaaOpen
import Derived.Lib.SlBytesConst
namespace Go.Proofs.Ythiihejbjfmbkaa
open Go.RowKit
theorem crc_check : crc [49, 50, 51, 52, 53, 54, 55, 56, 57] = 3808858755 := by decide +kernel
set_option maxRecDepth 100000 in
theorem law_WireChecksums (A : Option Addr) (len cap : Nat) (xs : List Nat) (w : World) (h : ArgRow .u8 w A len cap xs) :
    Calls Try.prog 5 #[.slice A len cap] w fun e w' => e = .returned (.bool true) ∧ Below w.heap.size w w' := by
  have hb := h.byte
  obtain ⟨hr, hlc, hm, _⟩ := h
  unfold maxLen at hm
  by_cases hl : len ≤ 3000
  · obtain ⟨s, h1, h2⟩ : ∃ s : Nat, (∀ w, ∀ B ≤ w.heap.size, Rd .u8 w B A len xs → Calls Try.prog 18 #[.slice A len cap] w fun e w' => e = .returned (.int .u32 (s : Nat)) ∧ Below w.heap.size w w') ∧ (∀ w B, Rd .u8 w B A len xs → Calls Try.prog 19 #[.slice A len cap] w fun e w' => e = .returned (.int .u32 (s : Nat)) ∧ w = w') :=
      ⟨_, fun w B hB hr => checksum_any w hr hB hb (by omega), fun w B hr => refChecksum_any w hr hb (by omega)⟩
    have H1 := Lib.hid h1
    have H2 := Lib.hid h2
    have HB := Lib.hid hb
    clear h1 h2 hb
    have kc := fun (w : World) (C : Array Value) (n c : Nat) => Lib.run_convert_bytes_const (P := Try.prog) w 23 5 C n c Try.underlying23 Try.underlying5
    go_enter Try.func5, Try.ntmps5
    go_wp2_with fail
    refine (H1.out _ _ (Nat.le_refl _) hr).mono ?_
    rintro e w1 ⟨rfl, b1⟩
    have r1 := hr.call b1
    go_wp2_with fail
    refine (H2.out _ _ r1).mono ?_
    rintro e w2 ⟨rfl, rfl⟩
    go_wp2_with fail
    refine (checksum_any (xs := [49, 50, 51, 52, 53, 54, 55, 56, 57]) _ (Rd.block .u8 _ _ _ _ _ rfl) ?_ ?_ ?_).mono ?_
    · simp
    · decide
    · decide
    rw [crc_check]
    rintro e w3 ⟨rfl, b3⟩
    go_wp2_with fail
    refine (awake8 _).mono ?_
    rintro e w5 ⟨rfl, b5⟩
    go_wp2
    go_ret
    have l1 := b1.size
    have b3' := (b1.alloc l1 _).trans (b3.mono (by simp; omega))
    exact ⟨rfl, b3'.trans (b5.mono b3'.size)⟩
  · go_enter Try.func5, Try.ntmps5
    go_wp2_with fail
    refine (awake8 _).mono ?_
    rintro e w5 ⟨rfl, b5⟩
    go_wp2
    go_ret
    exact ⟨rfl, b5⟩
end Go.Proofs.Ythiihejbjfmbkaa
