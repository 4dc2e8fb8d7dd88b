/- Walk of FromInt64. -/
import Derived.Test.YtociocengfjioaaGreatDoorIntH
namespace Go.Proofs.YtociocengfjioaaGreatDoor
open Go.RowKit
set_option linter.unusedVariables false

set_option maxRecDepth 100000 in
theorem fromInt64_any (k : Int) (w : World) (h1 : -9223372036854775808 ≤ k) (h2 : k ≤ 9223372036854775807) : Calls Tryz.prog 59 #[.int .i64 k] w (RetInt w k) := by
  have al := bone w (.cells #[.bool false, .slice none 0 0] 24)
  have pn := Pr.new w false none 0 0
  by_cases h0 : k < 0
  · have hd : decide (k < 0) = true := by simp; omega
    have HF := Lib.hid (fun W => fromWord_any k.natAbs W (by omega))
    have e1 : IntKind.u64.wrap (-IntKind.u64.wrap k) = (k.natAbs : Int) := by rw [IntKind.wrap_u64]; (try rw [IntKind.wrap_u64]); omega
    have hz : Hid (sgn true k.natAbs = k) := by unfold Hid sgn; simp; omega
    clear h1 h2
    generalize k.natAbs = v at *
    go_enter Tryz.func59, Tryz.ntmps59
    go_wp2_with fail
    try rw [e1]
    with_reducible refine (HF.out _).mono ?_
    rintro e w1 ⟨A1, n1, c1, rfl, r1, h1, h1', b1⟩
    have HW := Lib.hid (wrap_mag true w1 r1 h1 h1')
    go_wp2_with fail
    with_reducible refine HW.out.mono ?_
    rintro e w2 ⟨neg, A2, n2, c2, rfl, ci, b2⟩
    have p2 := (pn.call b1).call b2
    obtain ⟨q0, q1, f0, f1, k0, k1⟩ := p2.all (.bool neg) (.slice A2 n2 c2)
    go_wp2
    ((try simp only [Exit.inBlock, Exit.then]); refine bodyPost_ret (by simp [results, Tryz.results59, go_sem, k0, k1]; try rfl) rfl ?_)
    rw [← hz.out]
    exact RetInt.stored ci p2 (bthen (bthen al b1) b2) (Nat.le_refl _)
  · have hd : decide (k < 0) = false := by simp; omega
    have HF := Lib.hid (fun W => fromWord_any k.natAbs W (by omega))
    have e1 : IntKind.u64.wrap k = (k.natAbs : Int) := by rw [IntKind.wrap_u64]; (try rw [IntKind.wrap_u64]); omega
    have hz : Hid (sgn false k.natAbs = k) := by unfold Hid sgn; simp; omega
    clear h1 h2
    generalize k.natAbs = v at *
    go_enter Tryz.func59, Tryz.ntmps59
    go_wp2_with fail
    try rw [e1]
    with_reducible refine (HF.out _).mono ?_
    rintro e w1 ⟨A1, n1, c1, rfl, r1, h1, h1', b1⟩
    have HW := Lib.hid (wrap_mag false w1 r1 h1 h1')
    go_wp2_with fail
    with_reducible refine HW.out.mono ?_
    rintro e w2 ⟨neg, A2, n2, c2, rfl, ci, b2⟩
    have p2 := (pn.call b1).call b2
    obtain ⟨q0, q1, f0, f1, k0, k1⟩ := p2.all (.bool neg) (.slice A2 n2 c2)
    go_wp2
    ((try simp only [Exit.inBlock, Exit.then]); refine bodyPost_ret (by simp [results, Tryz.results59, go_sem, k0, k1]; try rfl) rfl ?_)
    rw [← hz.out]
    exact RetInt.stored ci p2 (bthen (bthen al b1) b2) (Nat.le_refl _)
end Go.Proofs.YtociocengfjioaaGreatDoor
