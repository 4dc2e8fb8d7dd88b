/- The walk of the law WireDecodes. -/
import Derived.Test.YthiihejbjfmbkaaWireAwake
import Derived.Test.YthiihejbjfmbkaaWireDecI
import Derived.Test.YthiihejbjfmbkaaWireDecT
import Derived.Test.YthiihejbjfmbkaaOpen
namespace Go.Proofs.Ythiihejbjfmbkaa
open Go.RowKit
set_option maxRecDepth 100000 in
theorem law_WireDecodes (A : Option Addr) (len cap : Nat) (xs : List Nat) (w : World) (h : ArgRow .u8 w A len cap xs) :
    Calls Try.prog 6 #[.slice A len cap] w fun e w' => e = .returned (.bool true) ∧ Below w.heap.size w w' := by
  have hb := h.byte
  obtain ⟨hr, hlc, hm, _⟩ := h
  unfold maxLen at hm
  by_cases hl : len ≤ 3000
  · have h1 := decodeUint_any (c := cap) w hr hb (by omega)
    have h2 := refDecodeUint_any (c := cap) w hr hb (by omega)
    have h3 := decodeInt_any (c := cap) w hr hb (by omega)
    have h4 := refDecodeInt_any (c := cap) w hr hb (by omega)
    have h5 := decodeText_any (c := cap) w hr hb hlc hm
    have h6 := refDecodeText_any (c := cap) w hr hb hlc hm
    generalize decU xs = r at *
    generalize decI xs = s at *
    generalize decT xs = t at *
    obtain ⟨r1, r2, r3⟩ := r
    obtain ⟨s1, s2, s3⟩ := s
    obtain ⟨t1, t2, t3⟩ := t
    have H1 := Lib.hid h1; have H2 := Lib.hid h2; have H3 := Lib.hid h3; have H4 := Lib.hid h4; have H5 := Lib.hid h5; have H6 := Lib.hid h6
    clear h1 h2 h3 h4 h5 h6 hb
    go_enter Try.func6, Try.ntmps6
    go_wp2_with fail
    refine H1.out.mono ?_
    rintro e w1 ⟨rfl, rfl⟩
    go_wp2_with fail
    refine H2.out.mono ?_
    rintro e w1 ⟨rfl, rfl⟩
    go_wp2_with fail
    refine H3.out.mono ?_
    rintro e w1 ⟨rfl, rfl⟩
    go_wp2_with fail
    refine H4.out.mono ?_
    rintro e w1 ⟨rfl, rfl⟩
    go_wp2_with fail
    refine H5.out.mono ?_
    rintro e w1 ⟨rfl, rfl⟩
    go_wp2_with fail
    refine H6.out.mono ?_
    rintro e w1 ⟨rfl, rfl⟩
    go_wp2_with fail
    refine (awake8 _).mono ?_
    rintro e w5 ⟨rfl, b5⟩
    go_wp2
    go_ret
    exact ⟨rfl, b5⟩
  · go_enter Try.func6, Try.ntmps6
    go_wp2_with fail
    refine (awake8 _).mono ?_
    rintro e w5 ⟨rfl, b5⟩
    go_wp2
    go_ret
    exact ⟨rfl, b5⟩
end Go.Proofs.Ythiihejbjfmbkaa
