/- The walk of the law WireTexts. -/
import Derived.Test.YthiihejbjfmbkaaWireAwake
import Derived.Test.YthiihejbjfmbkaaWireRefEnc
namespace Go.Proofs.Ythiihejbjfmbkaa
open Go.RowKit
set_option maxRecDepth 100000 in
theorem law_WireTexts (s : ByteArray) (n : Int) (w : World) (hs : s.size ≤ maxLen) (_h : (Lit.int .i64 n).wf = true) :
    Calls Try.prog 3 #[.string s, .int .i64 n] w fun e w' => e = .returned (.bool true) ∧ Below w.heap.size w w' := by
  unfold maxLen at hs
  by_cases hl : s.size ≤ 3000
  · obtain ⟨k, hk, ha⟩ := and3 n
    have enc : ∀ s : ByteArray, s.size ≤ 9223372036854775807 → ∃ xs er, (∀ w, Calls Try.prog 11 #[.string s] w (RetOwnE .u8 5 w xs er)) ∧ (∀ w, Calls Try.prog 12 #[.string s] w (RetOwnE .u8 5 w xs er)) :=
      fun s h => ⟨_, _, fun w => encodeText_any s w h, fun w => refEncodeText_any s w h⟩
    obtain ⟨xs, er, hp, hq⟩ := enc s hs
    obtain ⟨ys, es, hr, ht⟩ := enc (strOf (List.replicate (19999 + k) 0)) (by rw [strOf_size, List.length_replicate]; omega)
    have Hp := Lib.hid hp; have Hq := Lib.hid hq; have Hr := Lib.hid hr; have Hs := Lib.hid ht
    clear hp hq hr ht enc
    go_enter Try.func3, Try.ntmps3
    go_wp2_with (at_make; go_must (refine wpList_make_lst (kx := .i64) (ky := .i64) Try.elemU8 Try.underlying23 (n := 19999 + k) (c := 19999 + k) rfl rfl (congrArg (Value.int .i64) (by omega)) (congrArg (Value.int .i64) (by omega)) (Nat.le_refl _) (by omega) (by omega) ?_; intro w0 hbuf b0 _))
    have r0 := hbuf.rd
    rw [List.length_replicate] at r0
    have HR := Lib.hid r0
    clear hbuf r0
    refine (Hp.out _).mono ?_
    rintro e w1 ⟨v1, rfl, o1⟩
    obtain ⟨A1, c1, rfl, r1, _⟩ := o1.form
    have b1 := b0.trans (o1.2.mono b0.size)
    have HR1 := Lib.hid (HR.out.call o1.2); clear o1 HR b0
    go_wp2_with fail
    refine (Hq.out _).mono ?_
    rintro e w2 ⟨v2, rfl, o2⟩
    obtain ⟨A2, c2, rfl, r2, _⟩ := o2.form
    have b2 := b1.trans (o2.2.mono b1.size); have r1' := r1.call o2.2; have HR := Lib.hid (HR1.out.call o2.2); clear o2 r1 b1 HR1
    go_wp2_with (refine wpList_string_rd Try.underlying23 Try.underlying5 Try.underlying9 HR.out rfl rfl rfl ?_)
    refine (Hr.out _).mono ?_
    rintro e w3 ⟨v3, rfl, o3⟩
    obtain ⟨A3, c3, rfl, r3, _⟩ := o3.form
    have b3 := b2.trans (o3.2.mono b2.size); have r1 := r1'.call o3.2; have r2' := r2.call o3.2; have HR1 := Lib.hid (HR.out.call o3.2); clear o3 r1' r2 b2 HR
    go_wp2_with (refine wpList_string_rd Try.underlying23 Try.underlying5 Try.underlying9 HR1.out rfl rfl rfl ?_)
    refine (Hs.out _).mono ?_
    rintro e w4 ⟨v4, rfl, o4⟩
    obtain ⟨A4, c4, rfl, r4, _⟩ := o4.form
    have b4 := b3.trans (o4.2.mono b3.size); have r1' := r1.call o4.2; have r2 := r2'.call o4.2; have r3' := r3.call o4.2; clear o4 r1 r2' r3 b3 HR1
    go_wp2_with fail
    refine (same_eq r1' r2).mono ?_
    rintro e w5 ⟨rfl, rfl⟩
    go_wp2_with fail
    refine (same_eq r3' r4).mono ?_
    rintro e w5 ⟨rfl, rfl⟩
    go_wp2_with fail
    refine (awake8 _).mono ?_
    rintro e w5 ⟨rfl, b5⟩
    go_wp2
    go_ret
    exact ⟨rfl, b4.trans (b5.mono b4.size)⟩
  · go_enter Try.func3, Try.ntmps3
    go_wp2_with fail
    refine (awake8 _).mono ?_
    rintro e w5 ⟨rfl, b5⟩
    go_wp2
    go_ret
    exact ⟨rfl, b5⟩
end Go.Proofs.Ythiihejbjfmbkaa
