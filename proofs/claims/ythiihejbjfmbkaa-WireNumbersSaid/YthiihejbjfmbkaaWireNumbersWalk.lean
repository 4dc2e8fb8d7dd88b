/- Lemmas for the laws of this seat (part WireNumbersWalk): each is proved for all values of its variables, under the premises that it states. -/
import Derived.Test.YthiihejbjfmbkaaWireAwake
import Derived.Test.YthiihejbjfmbkaaWireRefEnc
namespace Go.Proofs.Ythiihejbjfmbkaa
open Go.RowKit
set_option maxRecDepth 100000 in
theorem law_WireNumbers (n : Int) (w : World) (_h : (Lit.int .i64 n).wf = true) :
    Calls Try.prog 4 #[.int .i64 n] w fun e w' => e = .returned (.bool true) ∧ Below w.heap.size w w' := by
  obtain ⟨xs, er, hp, hq⟩ : ∃ xs er, (∀ w, Calls Try.prog 14 #[.int .i64 n] w (RetOwnE .u8 5 w xs er)) ∧ (∀ w, Calls Try.prog 15 #[.int .i64 n] w (RetOwnE .u8 5 w xs er)) :=
    ⟨_, _, encodeUint_any n, refEncodeUint_any n⟩
  obtain ⟨ys, es, hr, hs⟩ : ∃ ys es, (∀ w, Calls Try.prog 16 #[.int .i64 n] w (RetOwnE .u8 5 w ys es)) ∧ (∀ w, Calls Try.prog 17 #[.int .i64 n] w (RetOwnE .u8 5 w ys es)) :=
    ⟨_, _, encodeInt_any n, refEncodeInt_any n⟩
  have Hp := Lib.hid hp; have Hq := Lib.hid hq; have Hr := Lib.hid hr; have Hs := Lib.hid hs
  clear hp hq hr hs
  go_enter Try.func4, Try.ntmps4
  go_wp2_with fail
  refine (Hp.out _).mono ?_
  rintro e w1 ⟨v1, rfl, o1⟩
  obtain ⟨A1, c1, rfl, r1, _⟩ := o1.form
  have b1 := o1.2; clear o1
  go_wp2_with fail
  refine (Hq.out _).mono ?_
  rintro e w2 ⟨v2, rfl, o2⟩
  obtain ⟨A2, c2, rfl, r2, _⟩ := o2.form
  have b2 := b1.trans (o2.2.mono b1.size); have r1' := r1.call o2.2; clear o2 r1 b1
  go_wp2_with fail
  refine (Hr.out _).mono ?_
  rintro e w3 ⟨v3, rfl, o3⟩
  obtain ⟨A3, c3, rfl, r3, _⟩ := o3.form
  have b3 := b2.trans (o3.2.mono b2.size); have r1 := r1'.call o3.2; have r2' := r2.call o3.2; clear o3 r1' r2 b2
  go_wp2_with fail
  refine (Hs.out _).mono ?_
  rintro e w4 ⟨v4, rfl, o4⟩
  obtain ⟨A4, c4, rfl, r4, _⟩ := o4.form
  have b4 := b3.trans (o4.2.mono b3.size); have r1' := r1.call o4.2; have r2 := r2'.call o4.2; have r3' := r3.call o4.2; clear o4 r1 r2' r3 b3
  go_wp2_with fail
  refine (same_eq r1' r2).mono ?_
  rintro e w5 ⟨rfl, rfl⟩
  go_wp2_with fail
  refine (same_eq r3' r4).mono ?_
  rintro e w5 ⟨rfl, rfl⟩
  go_wp2_with fail
  refine (awake8 _).mono ?_
  rintro e w5 ⟨rfl, b5⟩
  go_wp2
  go_ret
  exact ⟨rfl, b4.trans (b5.mono b4.size)⟩
end Go.Proofs.Ythiihejbjfmbkaa
