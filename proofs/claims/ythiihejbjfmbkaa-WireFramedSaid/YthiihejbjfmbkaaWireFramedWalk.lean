/- The walk of the law WireFramed. -/
import Derived.Test.YthiihejbjfmbkaaWireAwake
import Derived.Test.YthiihejbjfmbkaaFrame
import Derived.Test.YthiihejbjfmbkaaUnframe
import Derived.Test.YthiihejbjfmbkaaFramedPlain
import Derived.Test.YthiihejbjfmbkaaOpen
import Derived.Test.YthiihejbjfmbkaaBase2
namespace Go.Proofs.Ythiihejbjfmbkaa
open Go.RowKit
theorem append_byte {xs ys : List Nat} (hx : ∀ x ∈ xs, x < 256) (hy : ∀ x ∈ ys, x < 256) : ∀ x ∈ xs ++ ys, x < 256 := fun x h => (List.mem_append.1 h).elim (hx x) (hy x)

set_option maxHeartbeats 1000000 in
set_option maxRecDepth 100000 in
theorem law_WireFramed (kd : Int) (A : Option Addr) (len cap : Nat) (xs : List Nat) (A' : Option Addr) (len' cap' : Nat) (zs : List Nat) (at_ bt : Int) (w : World) (hk : (Lit.int .u8 kd).wf = true) (h : ArgRow .u8 w A len cap xs) (h' : ArgRow .u8 w A' len' cap' zs) (_h3 : (Lit.int .i64 at_).wf = true) (_h4 : (Lit.int .i64 bt).wf = true) :
    Calls Try.prog 9 #[.int .u8 kd, .slice A len cap, .slice A' len' cap', .int .i64 at_, .int .i64 bt] w fun e w' => e = .returned (.bool true) ∧ Below w.heap.size w w' := by
  have hkb := byte_bounds hk
  obtain ⟨k, rfl⟩ := Int.eq_ofNat_of_zero_le hkb.1
  have hk256 : k < 256 := by omega
  have hb := h.byte
  have hzb := Lib.hid h'.byte
  obtain ⟨hr, hlc, hm, _⟩ := h
  obtain ⟨hr', hlc', hm', _⟩ := h'
  unfold maxLen at hm hm'
  clear hk hkb
  by_cases hl : len ≤ 200
  · by_cases hl' : len' ≤ 200
    · have hlen := hr.len
      have h1 := fun w (hr : Rd .u8 w w.heap.size A len xs) => frame_in (c := cap) k w hr hb hk256 (by omega)
      have HB := Lib.hid (fun rest => unframe_back k xs rest (by omega))
      have HC := Lib.hid (fun i => unframe_cut k xs i (by omega))
      have HX := Lib.hid (fun j d => unframe_change k xs j d (by omega) hk256 hb)
      have hfl := frameL_len k xs
      rw [hlen] at hfl
      have hel := encU_len9 (n := len) (by omega)
      have hep := encU_pos len
      have hfb : ∀ x ∈ frameL k xs, x < 256 := by
        unfold frameL
        exact append_byte (frameHead_byte hk256 hb (by omega)) (sum4_byte _)
      rw [hlen] at HX
      generalize frameL k xs = fr at *
      generalize (encU len).length = el at *
      have hf1 : fr.length ≤ len + el + 5 := by omega
      have hf2 : len + el + 5 ≤ fr.length := by omega
      have HF := Lib.hid hfl
      have HFB := Lib.hid hfb
      have H1 := Lib.hid h1
      have Hxb := Lib.hid hb
      have HLen := Lib.hid hlen
      clear hfl hfb h1 hb hlen
      go_enter Try.func9, Try.ntmps9
      go_wp2_with fail
      refine (H1.out _ hr).mono ?_
      rintro e w1 ⟨v1, rfl, o1⟩
      obtain ⟨A1, n1, c1, rfl, r1, hc1, hd1⟩ := o1.form'
      have hn1a : n1 ≤ len + el + 5 := by have := r1.len; omega
      have hn1b : len + el + 5 ≤ n1 := by have := r1.len; omega
      have HN1 := Lib.hid r1.len
      have b1 := o1.2; have x1 := hr.call o1.2; have z1 := hr'.call o1.2; clear o1 H1 hf1 hf2
      go_wp2_with (at_builtin; refine wpList_append_lst Try.elemU8 Try.underlying23 (Own.nil b1) r1 rfl rfl rfl rfl ?_ ?_ ?_)
      · simp; omega
      · simp; omega
      intro v3 w3 o3 g3 a3
      have z3 := z1.call (below_grown_nil g3)
      go_wp2_with (at_builtin; refine wpList_append_lst Try.elemU8 Try.underlying23 o3 z3 rfl rfl rfl rfl ?_ ?_ ?_)
      · have := HN1.out; omega
      · have := HN1.out; omega
      intro v4 w4 o4 g4 _
      have b24 := below_app2 g3 a3 g4
      clear g3 a3 g4 o3 z3
      have s1 := r1.call b24; have x4 := x1.call b24
      obtain ⟨A4, n4, c4, rfl, r4, hc4, hd4⟩ := o4.form'
      have hn4 : n4 ≤ 500 := by have := r4.len; rw [List.length_append, HN1.out, hr'.len] at this; omega
      have b4 := o4.2
      clear o4 b1 r1 x1 z1 b24
      have hdt := unframe_any (c := c4) w4 r4 (append_byte HFB.out hzb.out) hc4 (by omega) hd4
      rw [HB.out, HN1.out] at hdt
      have HD := Lib.hid hdt
      clear hdt
      go_wp2_with fail
      refine HD.out.mono ?_
      rintro e w5 ⟨v5, rfl, o5⟩
      obtain ⟨A5, n5, c5, rfl, r5, _⟩ := o5.form'
      have b5 := b4.trans (o5.2.mono b4.size); have s5 := s1.call o5.2; have x5 := x4.call o5.2
      clear HD r4 b4 s1 x4 o5
      go_wp2_with fail
      refine (same_eq r5 x5).mono ?_
      rintro e w6 ⟨rfl, rfl⟩
      go_wp2
      go_loopw [17, 18, 19, 20, 21] (fun i _ _ _ _ wr => ∃ q : Nat, q ≤ n1 ∧ i = .int .i64 q ∧ Rd .u8 wr wr.heap.size A1 n1 fr ∧ Below w.heap.size w wr) (fun i _ _ _ _ _ => n1 - (intOf i).toNat)
      case atStart => exact ⟨0, by omega, rfl, s5, b5⟩
      case round =>
        obtain ⟨q, hq, rfl, sq, bq⟩ := hrel
        clear s5 b5 x5 r5
        by_cases hlt : q < n1
        · go_wp2_with (refine wpList_cut_h (khi := .i64) (j := q) Try.elemU8 Try.underlying23 sq rfl rfl rfl rfl (by omega) (by omega) ?_)
          intro A7 r7
          have hdt := unframe_any (c := c1) wr r7 (take_byte q HFB.out) (by omega) (by omega) hd1
          rw [HC.out q (by rw [HN1.out]; exact hlt)] at hdt
          have HD := Lib.hid hdt
          clear hdt
          go_wp2_with fail
          refine HD.out.mono ?_
          rintro e w7 ⟨v7, rfl, o7⟩
          have s7 := sq.call o7.2
          have b7 := bq.trans (o7.2.mono bq.size)
          clear HD o7 sq bq r7
          go_wp2
          go_roundw
          case rel => exact ⟨q + 1, by omega, by go_num, s7, b7⟩
          case measure => simp [intOf]; omega
        · go_wp2_with (at_builtin; refine wpList_append_lst Try.elemU8 Try.underlying23 (Own.nil bq) sq rfl rfl rfl rfl ?_ ?_ ?_)
          · simp; omega
          · simp; omega
          intro v8 w8 o8 _ _
          obtain ⟨ka, hka, ea⟩ : ∃ k : Nat, k < 65536 ∧ bits .and .i64 at_ 65535 = (k : Int) := and_lt at_ 16 (by omega)
          obtain ⟨kb, hkb, eb⟩ : ∃ k : Nat, k < 8 ∧ bits .and .i64 bt 7 = (k : Int) := and_lt bt 3 (by omega)
          obtain ⟨j, hj⟩ : ∃ j, j = ka % (len + 4) := ⟨_, rfl⟩
          have hj4 : j < len + 4 := by rw [hj]; exact Nat.mod_lt _ (by omega)
          obtain ⟨pp, hpp⟩ : ∃ pp, pp = 1 + el + j := ⟨_, rfl⟩
          have hppn : pp < n1 := by omega
          have hrem : (n1 : Int) - len - 4 + (ka : Int) % ((len : Int) + 4) = (pp : Int) := by
            have : ((ka % (len + 4) : Nat) : Int) = (ka : Int) % ((len : Int) + 4) := by rw [Int.natCast_emod]; rfl
            omega
          obtain ⟨g, cg, rfl, hg0, hg1, hgc, hgf, hst⟩ := o8.at_ (p := pp) (by rw [HN1.out]; exact hppn)
          rw [HN1.out] at hst ⊢
          have HST := Lib.hid hst
          have hy := getD_lt fr pp 256 HFB.out (by omega)
          have HPP := Lib.hid hpp
          have HCH := Lib.hid (HX.out j)
          rw [show 1 + el + j = pp from hpp.symm] at HCH
          clear hst hpp hj
          generalize fr.getD pp 0 = y at *
          obtain ⟨hd256, hdne⟩ := xor_bit_ne y kb hy hkb
          have ed := u8_flip y kb hy hkb
          generalize y ^^^ 2 ^ kb = d at *
          have HD2 := Lib.hid (HCH.out d hj4 hd256 hdne)
          clear HCH
          have o9 := HST.out d
          have o9b : ∀ x ∈ fr.set pp d, x < 256 := fun x hx => by
            rcases List.mem_or_eq_of_mem_set hx with h | h
            · exact HFB.out x h
            · omega
          have hdt := unframe_any (c := cg) _ (by obtain ⟨A9, n9, c9, e9, r9, _⟩ := o9.form'; injection e9 with e1 e2 e3; subst e1 e2 e3; exact r9) o9b (by obtain ⟨A9, n9, c9, e9, _, h, _⟩ := o9.form'; injection e9 with e1 e2 e3; omega) (by omega) (by obtain ⟨A9, n9, c9, e9, _, _, h⟩ := o9.form'; injection e9 with e1 e2 e3; omega)
          rw [HD2.out] at hdt
          have HD := Lib.hid hdt
          have b9 := o9.2
          have B9 := Lib.hid b9
          have O9 := Lib.hid o9b
          clear hdt HST o8 o9b o9 b9 hdne
          go_wp2_with fail
          refine HD.out.mono ?_
          rintro e wA ⟨vA, rfl, oA⟩
          have bA := B9.out.trans (oA.2.mono B9.out.size)
          clear HD oA B9
          go_wp2_with fail
          refine (awake8 _).mono ?_
          rintro e wB ⟨rfl, bB⟩
          go_wp2
          go_ret
          exact ⟨rfl, bA.trans (bB.mono bA.size)⟩
    · have hl2 : 200 < len' := by omega
      go_enter Try.func9, Try.ntmps9
      go_wp2_with fail
      refine (awake8 _).mono ?_
      rintro e w5 ⟨rfl, b5⟩
      go_wp2
      go_ret
      exact ⟨rfl, b5⟩
  · have hl2 : 200 < len := by omega
    go_enter Try.func9, Try.ntmps9
    go_wp2_with fail
    refine (awake8 _).mono ?_
    rintro e w5 ⟨rfl, b5⟩
    go_wp2
    go_ret
    exact ⟨rfl, b5⟩
end Go.Proofs.Ythiihejbjfmbkaa
