/- The walks of Frame. -/
import Derived.Test.YthiihejbjfmbkaaWireRefEnc
import Derived.Test.YthiihejbjfmbkaaCrc
import Derived.Test.YthiihejbjfmbkaaFramePlain
namespace Go.Proofs.Ythiihejbjfmbkaa
open Go.RowKit

theorem sum4_cells {sm : Nat} (h : sm < 4294967296) : #[Value.int IntKind.u8 ((sm : Int) / 16777216), Value.int IntKind.u8 ((sm : Int) / 65536 % 256), Value.int IntKind.u8 ((sm : Int) / 256 % 256), Value.int IntKind.u8 ((sm : Int) % 256)] = (cellsOf IntKind.u8 (sum4 sm)).toArray := by
  simp [sum4, cellsOf]; omega
theorem Own.new1 (k : IntKind) (e : TypeId) {w0 : World} (w : World) (y : Nat) (hb : Below w0.heap.size w0 w) : Own k e w0 (w.alloc (.cells #[.int k (y : Int)] e)) (.slice (some ⟨w.heap.size, 0, none⟩) 1 1) [y] := by
  have h : Buf k e (w.alloc (.cells #[.int k (y : Int)] e)) w.heap.size [y] := heap_alloc_new w _
  exact h.own (hb.alloc hb.size _) hb.size (by simp [maxLen])

set_option maxRecDepth 100000 in
theorem frame_in {A : Option Addr} {n c : Nat} {xs : List Nat} (kind : Nat) (w : World) (hr : Rd .u8 w w.heap.size A n xs) (hx : ∀ x ∈ xs, x < 256) (hk : kind < 256) (hn : n ≤ 1048576) :
    Calls Try.prog 26 #[.int .u8 kind, .slice A n c] w (RetOwnE .u8 5 w (frameL kind xs) 0) := by
  have hl := hr.len
  have hb := frameHead_byte hk hx (by omega)
  have hfl := frameHead_len kind xs (by omega)
  have hel := encU_len9 (n := n) (by omega)
  have HF : Hid (frameL kind xs = frameHead kind xs ++ sum4 (crc (frameHead kind xs))) := rfl
  have HH : Hid (frameHead kind xs = ([] ++ [kind]) ++ encU n ++ xs) := by rw [← hl]; simp [frameHead, Hid]
  have Hx := Lib.hid hx
  have Hb := Lib.hid hb
  have HL := Lib.hid hl
  have hcl := crc_lt' (frameHead kind xs)
  clear hx hl hb
  go_enter Try.func26, Try.ntmps26
  go_wp2_with fail
  refine (encodeUint_in n _ (by omega)).mono ?_
  rintro e w1 ⟨v1, rfl, o1⟩
  obtain ⟨A1, n1, c1, rfl, r1, hc1, hd1⟩ := o1.form'
  have hn1 : n1 ≤ 9 := by have := r1.len; omega
  have b1 := o1.2
  have x1 := hr.call o1.2
  clear o1
  go_wp2_with (at_make; refine wpList_make_lst (kx := .i64) (ky := .i64) (n := 0) (c := 1 + n1 + n + 4) Try.elemU8 Try.underlying23 rfl rfl rfl (congrArg (Value.int .i64) (by omega)) (by omega) (by omega) (by omega) ?_)
  intro w2 B2 b2 l2
  have o2 := B2.own0 (w0 := w1) b2 (Nat.le_refl _) (by omega)
  clear B2 b2 l2
  generalize 1 + n1 + n + 4 = cc at *
  go_wp2_with (at_builtin; refine wpList_append_lst Try.elemU8 Try.underlying23 (o2.alloc _) (Rd.one .u8 _ 5 (y := kind) rfl) rfl rfl rfl rfl ?_ ?_ ?_)
  · simp
  · simp
  intro v3 w3 o3 _ _
  clear o2
  go_wp2_with (at_builtin; refine wpList_append_lst Try.elemU8 Try.underlying23 o3 (r1.below o3.below) rfl rfl rfl rfl ?_ ?_ ?_)
  · simp; omega
  · simp; omega
  intro v4 w4 o4 _ _
  clear o3
  go_wp2_with (at_builtin; refine wpList_append_lst Try.elemU8 Try.underlying23 o4 (x1.below o4.below) rfl rfl rfl rfl ?_ ?_ ?_)
  · simp; omega
  · simp; omega
  intro v5 w5 o5 _ _
  clear o4
  have o5' : Own .u8 5 w1 w5 v5 (frameHead kind xs) := by rw [HH.out]; exact o5
  clear o5
  obtain ⟨A5, n5, c5, rfl, r5, hc5, hd5⟩ := o5'.form'
  have hck := checksum_any (c := c5) w5 r5 (Nat.le_refl _) Hb.out (by omega)
  generalize crc (frameHead kind xs) = sm at *
  have HK := Lib.hid hck
  clear hck
  go_wp2_with fail
  refine HK.out.mono ?_
  rintro e w6 ⟨rfl, b6⟩
  have o6 := o5'.later b6
  clear HK o5' r5
  go_wp2_with (at_builtin; refine wpList_append_lst Try.elemU8 Try.underlying23 (o6.alloc _) (Rd.block .u8 _ 5 _ (sum4 sm) _ ?_) rfl rfl rfl rfl ?_ ?_ ?_)
  · exact sum4_cells hcl
  · simp [sum4]; omega
  · simp [sum4]; omega
  intro v7 w7 o7 _ _
  clear o6
  go_wp2
  go_ret2
  exact ⟨v7, rfl, by rw [HF.out]; exact o7.up b1⟩

theorem frame_out {A : Option Addr} {n c : Nat} (kind : Int) (w : World) (hn : 1048576 < n) :
    Calls Try.prog 26 #[.int .u8 kind, .slice A n c] w (RetOwnE .u8 5 w [] 10) := by
  go_enter Try.func26, Try.ntmps26
  go_wp2
  go_ret2
  exact ⟨_, rfl, Own.nil (Below.refl _ _)⟩
theorem frame_any {A : Option Addr} {n c : Nat} {xs : List Nat} (kind : Nat) (w : World) (hr : Rd .u8 w w.heap.size A n xs) (hx : ∀ x ∈ xs, x < 256) (hk : kind < 256) :
    Calls Try.prog 26 #[.int .u8 kind, .slice A n c] w (RetOwnE .u8 5 w (frame kind xs).1 (frame kind xs).2) := by
  unfold frame
  rw [hr.len]
  by_cases h : n ≤ 1048576
  · rw [if_pos h]; exact frame_in kind w hr hx hk h
  · rw [if_neg h]; exact frame_out _ w (by omega)

set_option maxRecDepth 100000 in
theorem refFrame_in {A : Option Addr} {n c : Nat} {xs : List Nat} (kind : Nat) (w : World) (hr : Rd .u8 w w.heap.size A n xs) (hx : ∀ x ∈ xs, x < 256) (hk : kind < 256) (hn : n ≤ 1048576) :
    Calls Try.prog 27 #[.int .u8 kind, .slice A n c] w (RetOwnE .u8 5 w (frameL kind xs) 0) := by
  have hl := hr.len
  have hb := frameHead_byte hk hx (by omega)
  have hfl := frameHead_len kind xs (by omega)
  have hel := encU_len9 (n := n) (by omega)
  have HF : Hid (frameL kind xs = frameHead kind xs ++ sum4 (crc (frameHead kind xs))) := rfl
  have HH : Hid (frameHead kind xs = [kind] ++ encU n ++ xs) := by rw [← hl]; simp [frameHead, Hid]
  have Hx := Lib.hid hx
  have Hb := Lib.hid hb
  have HL := Lib.hid hl
  have hcl := crc_lt' (frameHead kind xs)
  clear hx hl hb
  go_enter Try.func27, Try.ntmps27
  go_wp2_with fail
  have o0 := Own.new1 .u8 5 w kind (Below.refl _ _)
  refine (uint0_in n _ (by omega)).mono ?_
  rintro e w1 ⟨v1, rfl, o1⟩
  obtain ⟨A1, n1, c1, rfl, r1, hc1, hd1⟩ := o1.form'
  have hn1 : n1 ≤ 9 := by have := r1.len; omega
  have o2 := o0.later o1.2
  clear o1 o0
  go_wp2_with (at_builtin; refine wpList_append_lst Try.elemU8 Try.underlying23 o2 r1 rfl rfl rfl rfl ?_ ?_ ?_)
  · simp; omega
  · simp; omega
  intro v4 w4 o4 _ _
  clear o2
  go_wp2_with (at_builtin; refine wpList_append_lst Try.elemU8 Try.underlying23 o4 (hr.below o4.below) rfl rfl rfl rfl ?_ ?_ ?_)
  · simp; omega
  · simp; omega
  intro v5 w5 o5 _ _
  clear o4
  have o5' : Own .u8 5 w w5 v5 (frameHead kind xs) := by rw [HH.out]; exact o5
  clear o5
  obtain ⟨A5, n5, c5, rfl, r5, hc5, hd5⟩ := o5'.form'
  have hck := refChecksum_any (c := c5) w5 r5 Hb.out (by omega)
  generalize crc (frameHead kind xs) = sm at *
  have HK := Lib.hid hck
  clear hck
  go_wp2_with fail
  refine HK.out.mono ?_
  rintro e w6 ⟨rfl, rfl⟩
  clear HK r5
  go_wp2_with (at_builtin; refine wpList_append_lst Try.elemU8 Try.underlying23 (o5'.alloc _) (Rd.block .u8 _ 5 _ (sum4 sm) _ ?_) rfl rfl rfl rfl ?_ ?_ ?_)
  · exact sum4_cells hcl
  · simp [sum4]; omega
  · simp [sum4]; omega
  intro v7 w7 o7 _ _
  clear o5'
  go_wp2
  go_ret2
  exact ⟨v7, rfl, by rw [HF.out]; exact o7⟩
theorem refFrame_out {A : Option Addr} {n c : Nat} (kind : Int) (w : World) (hn : 1048576 < n) :
    Calls Try.prog 27 #[.int .u8 kind, .slice A n c] w (RetOwnE .u8 5 w [] 10) := by
  go_enter Try.func27, Try.ntmps27
  go_wp2
  go_ret2
  exact ⟨_, rfl, Own.nil (Below.refl _ _)⟩
theorem refFrame_any {A : Option Addr} {n c : Nat} {xs : List Nat} (kind : Nat) (w : World) (hr : Rd .u8 w w.heap.size A n xs) (hx : ∀ x ∈ xs, x < 256) (hk : kind < 256) :
    Calls Try.prog 27 #[.int .u8 kind, .slice A n c] w (RetOwnE .u8 5 w (frame kind xs).1 (frame kind xs).2) := by
  unfold frame
  rw [hr.len]
  by_cases h : n ≤ 1048576
  · rw [if_pos h]; exact refFrame_in kind w hr hx hk h
  · rw [if_neg h]; exact refFrame_out _ w (by omega)
end Go.Proofs.Ythiihejbjfmbkaa
