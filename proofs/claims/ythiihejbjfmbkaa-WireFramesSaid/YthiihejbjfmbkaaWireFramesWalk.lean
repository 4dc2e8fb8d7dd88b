/- The walk of the law WireFrames. -/
import Derived.Test.YthiihejbjfmbkaaWireAwake
import Derived.Test.YthiihejbjfmbkaaFrame
import Derived.Test.YthiihejbjfmbkaaUnframe
import Derived.Test.YthiihejbjfmbkaaRefUnframe
import Derived.Test.YthiihejbjfmbkaaOpen
namespace Go.Proofs.Ythiihejbjfmbkaa
open Go.RowKit
set_option maxHeartbeats 1000000 in
set_option maxRecDepth 100000 in
theorem law_WireFrames (kd : Int) (A : Option Addr) (len cap : Nat) (xs : List Nat) (A' : Option Addr) (len' cap' : Nat) (ys : List Nat) (w : World) (hk : (Lit.int .u8 kd).wf = true) (h : ArgRow .u8 w A len cap xs) (h' : ArgRow .u8 w A' len' cap' ys) :
    Calls Try.prog 8 #[.int .u8 kd, .slice A len cap, .slice A' len' cap'] w fun e w' => e = .returned (.bool true) ∧ Below w.heap.size w w' := by
  have hkb := byte_bounds hk
  obtain ⟨k, rfl⟩ := Int.eq_ofNat_of_zero_le hkb.1
  have hk256 : k < 256 := by omega
  have hb := h.byte
  have hb' := h'.byte
  obtain ⟨hr, hlc, hm, _⟩ := h
  obtain ⟨hr', hlc', hm', _⟩ := h'
  unfold maxLen at hm hm'
  clear hk hkb
  by_cases hl : len ≤ 3000
  · by_cases hl' : len' ≤ 3000
    · have h1 := fun w (hr : Rd .u8 w w.heap.size A len xs) => frame_any (c := cap) k w hr hb hk256
      have h2 := fun w (hr : Rd .u8 w w.heap.size A len xs) => refFrame_any (c := cap) k w hr hb hk256
      have h3 := fun w (hr : Rd .u8 w w.heap.size A' len' ys) => unframe_any (c := cap') w hr hb' hlc' (by omega) (by omega)
      have h4 := fun w (hr : Rd .u8 w w.heap.size A' len' ys) => refUnframe_any (c := cap') w hr hb' hlc' (by omega) (by omega)
      generalize frame k xs = fr at *
      generalize unframe ys = un at *
      obtain ⟨f1, f2⟩ := fr
      obtain ⟨u1, u2, u3, u4⟩ := un
      have H1 := Lib.hid h1; have H2 := Lib.hid h2; have H3 := Lib.hid h3; have H4 := Lib.hid h4
      clear h1 h2 h3 h4 hb hb'
      go_enter Try.func8, Try.ntmps8
      go_wp2_with fail
      refine (H1.out _ hr).mono ?_
      rintro e w1 ⟨v1, rfl, o1⟩
      obtain ⟨A1, n1, c1, rfl, r1, _⟩ := o1.form'
      have b1 := o1.2; have x1 := hr.call o1.2; have y1 := hr'.call o1.2; clear o1
      go_wp2_with fail
      refine (H2.out _ x1).mono ?_
      rintro e w2 ⟨v2, rfl, o2⟩
      obtain ⟨A2, n2, c2, rfl, r2, _⟩ := o2.form'
      have b2 := b1.trans (o2.2.mono b1.size); have s1 := r1.call o2.2; have y2 := y1.call o2.2; clear o2 r1 b1 y1 x1
      go_wp2_with fail
      refine (H3.out _ y2).mono ?_
      rintro e w3 ⟨v3, rfl, o3⟩
      obtain ⟨A3, n3, c3, rfl, r3, _⟩ := o3.form'
      have b3 := b2.trans (o3.2.mono b2.size); have t1 := s1.call o3.2; have t2 := r2.call o3.2; have y3 := y2.call o3.2; clear o3 s1 r2 b2 y2
      go_wp2_with fail
      refine (H4.out _ y3).mono ?_
      rintro e w4 ⟨v4, rfl, o4⟩
      obtain ⟨A4, n4, c4, rfl, r4, _⟩ := o4.form'
      have b4 := b3.trans (o4.2.mono b3.size); have q1 := t1.call o4.2; have q2 := t2.call o4.2; have q3 := r3.call o4.2; clear o4 t1 t2 r3 b3 y3
      go_wp2_with fail
      refine (same_eq q1 q2).mono ?_
      rintro e w5 ⟨rfl, rfl⟩
      go_wp2_with fail
      refine (same_eq q3 r4).mono ?_
      rintro e w5 ⟨rfl, rfl⟩
      go_wp2_with fail
      refine (awake8 _).mono ?_
      rintro e w5 ⟨rfl, b5⟩
      go_wp2
      go_ret
      exact ⟨rfl, b4.trans (b5.mono b4.size)⟩
    · have hl2 : 3000 < len' := by omega
      go_enter Try.func8, Try.ntmps8
      go_wp2_with fail
      refine (awake8 _).mono ?_
      rintro e w5 ⟨rfl, b5⟩
      go_wp2
      go_ret
      exact ⟨rfl, b5⟩
  · have hl2 : 3000 < len := by omega
    go_enter Try.func8, Try.ntmps8
    go_wp2_with fail
    refine (awake8 _).mono ?_
    rintro e w5 ⟨rfl, b5⟩
    go_wp2
    go_ret
    exact ⟨rfl, b5⟩
end Go.Proofs.Ythiihejbjfmbkaa
