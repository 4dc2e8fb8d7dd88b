/- The walk of the law WireBack. -/
import Derived.Test.YthiihejbjfmbkaaWireAwake
import Derived.Test.YthiihejbjfmbkaaWireDecI
import Derived.Test.YthiihejbjfmbkaaWireDecT
import Derived.Test.YthiihejbjfmbkaaWireBackPlain
import Derived.Test.YthiihejbjfmbkaaOpen
namespace Go.Proofs.Ythiihejbjfmbkaa
open Go.RowKit
theorem append_byte {xs ys : List Nat} (hx : ∀ x ∈ xs, x < 256) (hy : ∀ x ∈ ys, x < 256) : ∀ x ∈ xs ++ ys, x < 256 := fun x h => (List.mem_append.1 h).elim (hx x) (hy x)
theorem take_byte {xs : List Nat} (n : Nat) (hx : ∀ x ∈ xs, x < 256) : ∀ x ∈ xs.take n, x < 256 := fun x h => hx x (List.mem_of_mem_take h)

theorem RetDecT' (bs : List Nat) (a b : Nat) (w : World) : RetDecT (bs, a, b) w = fun e w' => e = .returned (.tuple #[.string (strOf bs), .int .i64 (a : Int), .int .i64 (b : Int)]) ∧ w = w' := rfl

set_option maxHeartbeats 1000000 in
set_option maxRecDepth 100000 in
theorem law_WireBack (n : Int) (s : ByteArray) (A : Option Addr) (len cap : Nat) (zs : List Nat) (w : World) (_h : (Lit.int .i64 n).wf = true) (_hs : s.size ≤ maxLen) (h : ArgRow .u8 w A len cap zs) :
    Calls Try.prog 7 #[.int .i64 n, .string s, .slice A len cap] w fun e w' => e = .returned (.bool true) ∧ Below w.heap.size w w' := by
  have hzb := Lib.hid h.byte
  obtain ⟨hr, hlc, hm, _⟩ := h
  unfold maxLen at hm _hs
  by_cases hs : s.size ≤ 300
  · by_cases hl : len ≤ 300
    · have h1 := encodeInt_any n
      have h2 := fun w => encodeText_any s w _hs
      obtain ⟨bs, hbs⟩ : ∃ bs, bs = bytesOf s := ⟨_, rfl⟩
      have hbl : bs.length = s.size := by rw [hbs, bytesOf_length]
      have hbb : ∀ x ∈ bs, x < 256 := by rw [hbs]; exact bytesOf_lt s
      have hst : strOf bs = s := by rw [hbs, strOf_bytesOf]
      have e2 : encT s = (encU bs.length ++ bs, 0) := by unfold encT; rw [if_pos (by omega), hbs, bytesOf_length]
      rw [e2] at h2
      have heb := encU_byte9 (n := bs.length) (by omega)
      have hel := encU_len9 (n := bs.length) (by omega)
      have HT := Lib.hid (fun rest => decT_enc bs rest (by omega))
      have HC := Lib.hid (fun j => decT_cut bs j (by omega))
      obtain ⟨tx, htx⟩ : ∃ tx, tx = encU bs.length ++ bs := ⟨_, rfl⟩
      rw [← htx] at h2
      have htb := Lib.hid (by rw [htx]; exact append_byte heb hbb : ∀ x ∈ tx, x < 256)
      have htl : tx.length ≤ 310 := by rw [htx, List.length_append]; omega
      rw [← htx] at HT HC
      have HST := Lib.hid hst
      have H2 := Lib.hid h2
      clear e2 heb hel htx hbb hst h2 hbs hbl
      by_cases hn : -2305843009213693952 ≤ n ∧ n ≤ 2305843009213693952
      · have e1 : encI n = (encU (zig n), 0) := by unfold encI; rw [if_pos hn]
        rw [e1] at h1
        have hz := zig_bd n hn.1 hn.2
        have HI := Lib.hid (fun rest => decI_enc n rest hn.1 hn.2)
        have HJ := Lib.hid (fun j => decI_cut n j hn.1 hn.2)
        have hib := Lib.hid (encU_byte9 hz)
        have hil := encU_len9 hz
        have H1 := Lib.hid h1
        clear h1 e1 hz hn
        generalize encU (zig n) = ix at *
        go_enter Try.func7, Try.ntmps7
        go_wp2_with fail
        refine (H1.out _).mono ?_
        rintro e w1 ⟨v1, rfl, o1⟩
        obtain ⟨A1, c1, rfl, r1, hc1, hd1⟩ := o1.form
        have b1 := o1.2
        have z1 := hr.call o1.2
        clear o1
        go_wp2_with fail
        refine (H2.out _).mono ?_
        rintro e w2 ⟨v2, rfl, o2⟩
        obtain ⟨A2, c2, rfl, r2, hc2, hd2⟩ := o2.form
        have b2 := b1.trans (o2.2.mono b1.size); have s1 := r1.call o2.2; have z2 := z1.call o2.2
        clear o2 r1 b1 z1
        go_wp2_with (at_builtin; refine wpList_append_lst Try.elemU8 Try.underlying23 (Own.nil b2) r2 rfl rfl rfl rfl ?_ ?_ ?_)
        · simp; omega
        · simp; omega
        intro v3 w3 o3 g3 a3
        have z3 := z2.call (below_grown_nil g3)
        go_wp2_with (at_builtin; refine wpList_append_lst Try.elemU8 Try.underlying23 o3 z3 rfl rfl rfl rfl ?_ ?_ ?_)
        · omega
        · omega
        intro v4 w4 o4 g4 _
        have b24 := below_app2 g3 a3 g4
        clear g3 a3 g4 o3 z3
        have r1 := s1.call b24; have s2 := r2.call b24; have z4 := z2.call b24
        obtain ⟨A4, n4, c4, rfl, r4, hc4, hd4⟩ := o4.form'
        have b4 := o4.2
        clear o4 b2 s1 r2 z2 b24
        have hdt := decodeText_any (c := c4) w4 r4 (append_byte htb.out hzb.out) hc4 hd4
        rw [HT.out, RetDecT', HST.out] at hdt
        have HD := Lib.hid hdt
        clear hdt
        go_wp2_with fail
        refine HD.out.mono ?_
        rintro e w5 ⟨rfl, rfl⟩
        clear HD r4
        go_wp2
        go_loopw [14, 15, 16, 17] (fun i _ _ _ wr => ∃ k : Nat, k ≤ tx.length ∧ i = .int .i64 k ∧ Hid (wr = w4)) (fun i _ _ _ _ => tx.length - (intOf i).toNat)
        case atStart => exact ⟨0, by omega, rfl, rfl⟩
        case round =>
          obtain ⟨k, hk, rfl, hw⟩ := hrel
          have hw' := hw.out
          subst hw'
          clear hw
          by_cases hlt : k < tx.length
          · go_wp2_with (refine wpList_cut_h (khi := .i64) (j := k) Try.elemU8 Try.underlying23 s2 rfl rfl rfl rfl (by omega) (by omega) ?_)
            intro A5 r5
            have hdt := decodeText_any (c := c2) wr r5 (take_byte k htb.out) (by omega) hd2
            rw [HC.out k hlt] at hdt
            have HD := Lib.hid hdt
            clear hdt
            go_wp2_with fail
            refine HD.out.mono ?_
            rintro e w5 ⟨rfl, rfl⟩
            clear HD
            go_wp2
            go_roundw
            case rel => exact ⟨k + 1, by omega, by go_num, trivial⟩
            case measure => simp [intOf]; omega
          · go_wp2_with (at_builtin; refine wpList_append_lst Try.elemU8 Try.underlying23 (Own.nil b4) r1 rfl rfl rfl rfl ?_ ?_ ?_)
            · simp; omega
            · simp; omega
            intro v6 w6 o6 g6 a6
            have z6 := z4.call (below_grown_nil g6)
            go_wp2_with (at_builtin; refine wpList_append_lst Try.elemU8 Try.underlying23 o6 z6 rfl rfl rfl rfl ?_ ?_ ?_)
            · omega
            · omega
            intro v7 w7 o7 g7 _
            have b67 := below_app2 g6 a6 g7
            clear g6 a6 g7 o6 z6
            have q1 := r1.call b67
            obtain ⟨A7, n7, c7, rfl, r7, hc7, hd7⟩ := o7.form'
            have b7 := o7.2
            clear o7 b4 r1 z4 s2 b67
            have hdt := decodeInt_any (c := c7) w7 r7 (append_byte hib.out hzb.out) (by omega)
            rw [HI.out] at hdt
            have HD := Lib.hid hdt
            clear hdt
            go_wp2_with fail
            refine HD.out.mono ?_
            rintro e w5 ⟨rfl, rfl⟩
            clear HD r7
            go_wp2
            go_loopw [21, 22, 23, 24] (fun i _ _ _ wr => ∃ k : Nat, k ≤ ix.length ∧ i = .int .i64 k ∧ Hid (wr = w7)) (fun i _ _ _ _ => ix.length - (intOf i).toNat)
            case atStart => exact ⟨0, by omega, rfl, rfl⟩
            case round =>
              obtain ⟨k, hk, rfl, hw⟩ := hrel
              have hw' := hw.out
              subst hw'
              clear hw
              by_cases hlt : k < ix.length
              · go_wp2_with (refine wpList_cut_h (khi := .i64) (j := k) Try.elemU8 Try.underlying23 q1 rfl rfl rfl rfl (by omega) (by omega) ?_)
                intro A8 r8
                have hdt := decodeInt_any (c := c1) wr r8 (take_byte k hib.out) (by omega)
                rw [HJ.out k hlt] at hdt
                have HD := Lib.hid hdt
                clear hdt
                go_wp2_with fail
                refine HD.out.mono ?_
                rintro e w5 ⟨rfl, rfl⟩
                clear HD
                go_wp2
                go_roundw
                case rel => exact ⟨k + 1, by omega, by go_num, trivial⟩
                case measure => simp [intOf]; omega
              · go_wp2_with fail
                refine (awake8 _).mono ?_
                rintro e w5 ⟨rfl, b5⟩
                go_wp2
                go_ret
                exact ⟨rfl, b7.trans (b5.mono b7.size)⟩
      · have e1 : encI n = ([], 5) := by unfold encI; rw [if_neg hn]
        rw [e1] at h1
        have H1 := Lib.hid h1
        clear h1 e1 hn
        go_enter Try.func7, Try.ntmps7
        go_wp2_with fail
        refine (H1.out _).mono ?_
        rintro e w1 ⟨v1, rfl, o1⟩
        obtain ⟨A1, c1, rfl, r1, hc1, hd1⟩ := o1.form
        have b1 := o1.2
        have z1 := hr.call o1.2
        clear o1
        go_wp2_with fail
        refine (H2.out _).mono ?_
        rintro e w2 ⟨v2, rfl, o2⟩
        obtain ⟨A2, c2, rfl, r2, hc2, hd2⟩ := o2.form
        have b2 := b1.trans (o2.2.mono b1.size); have s1 := r1.call o2.2; have z2 := z1.call o2.2
        clear o2 r1 b1 z1
        go_wp2_with (at_builtin; refine wpList_append_lst Try.elemU8 Try.underlying23 (Own.nil b2) r2 rfl rfl rfl rfl ?_ ?_ ?_)
        · simp; omega
        · simp; omega
        intro v3 w3 o3 g3 a3
        have z3 := z2.call (below_grown_nil g3)
        go_wp2_with (at_builtin; refine wpList_append_lst Try.elemU8 Try.underlying23 o3 z3 rfl rfl rfl rfl ?_ ?_ ?_)
        · omega
        · omega
        intro v4 w4 o4 g4 _
        have b24 := below_app2 g3 a3 g4
        clear g3 a3 g4 o3 z3
        have r1 := s1.call b24; have s2 := r2.call b24; have z4 := z2.call b24
        obtain ⟨A4, n4, c4, rfl, r4, hc4, hd4⟩ := o4.form'
        have b4 := o4.2
        clear o4 b2 s1 r2 z2 b24
        have hdt := decodeText_any (c := c4) w4 r4 (append_byte htb.out hzb.out) hc4 hd4
        rw [HT.out, RetDecT', HST.out] at hdt
        have HD := Lib.hid hdt
        clear hdt
        go_wp2_with fail
        refine HD.out.mono ?_
        rintro e w5 ⟨rfl, rfl⟩
        clear HD r4
        go_wp2
        go_loopw [14, 15, 16, 17] (fun i _ _ _ wr => ∃ k : Nat, k ≤ tx.length ∧ i = .int .i64 k ∧ Hid (wr = w4)) (fun i _ _ _ _ => tx.length - (intOf i).toNat)
        case atStart => exact ⟨0, by omega, rfl, rfl⟩
        case round =>
          obtain ⟨k, hk, rfl, hw⟩ := hrel
          have hw' := hw.out
          subst hw'
          clear hw
          by_cases hlt : k < tx.length
          · go_wp2_with (refine wpList_cut_h (khi := .i64) (j := k) Try.elemU8 Try.underlying23 s2 rfl rfl rfl rfl (by omega) (by omega) ?_)
            intro A5 r5
            have hdt := decodeText_any (c := c2) wr r5 (take_byte k htb.out) (by omega) hd2
            rw [HC.out k hlt] at hdt
            have HD := Lib.hid hdt
            clear hdt
            go_wp2_with fail
            refine HD.out.mono ?_
            rintro e w5 ⟨rfl, rfl⟩
            clear HD
            go_wp2
            go_roundw
            case rel => exact ⟨k + 1, by omega, by go_num, trivial⟩
            case measure => simp [intOf]; omega
          · go_wp2_with fail
            refine (awake8 _).mono ?_
            rintro e w5 ⟨rfl, b5⟩
            go_wp2
            go_ret
            exact ⟨rfl, b4.trans (b5.mono b4.size)⟩
    · have hl' : 300 < len := by omega
      go_enter Try.func7, Try.ntmps7
      go_wp2_with fail
      refine (awake8 _).mono ?_
      rintro e w5 ⟨rfl, b5⟩
      go_wp2
      go_ret
      exact ⟨rfl, b5⟩
  · have hl' : 300 < s.size := by omega
    go_enter Try.func7, Try.ntmps7
    go_wp2_with fail
    refine (awake8 _).mono ?_
    rintro e w5 ⟨rfl, b5⟩
    go_wp2
    go_ret
    exact ⟨rfl, b5⟩
end Go.Proofs.Ythiihejbjfmbkaa
