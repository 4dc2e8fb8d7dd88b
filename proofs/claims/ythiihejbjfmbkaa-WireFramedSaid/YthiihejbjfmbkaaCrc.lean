/- The walks of wire.table, wire.Checksum and pairingref8.Checksum. -/
import Derived.Test.YthiihejbjfmbkaaProg
import Derived.Test.YthiihejbjfmbkaaCrcPlain
namespace Go.Proofs.Ythiihejbjfmbkaa
open Go.RowKit

theorem Try.zeroTab (w : World) : (zeroValue 47).run Try.prog w = .ok (.agg (cellsOf .u32 (tabTo 0)).toArray) w := by kernel_rfl
theorem Try.sizeTab : (Try.prog.info? 47).map (·.size) = some 256 := by kernel_rfl

theorem u32_and1 (r : Nat) (h : r < 4294967296) : bits .and .u32 (r : Int) 1 = ((r % 2 : Nat) : Int) := by
  have := u32_and_nat r 1 h (by omega)
  rw [nat_mask1] at this
  exact this
theorem u32_xorP (r : Nat) (h : r < 4294967296) : bits .xor .u32 ((r : Int) / 2) 2197175160 = ((r / 2 ^^^ 2197175160 : Nat) : Int) := by
  have := u32_xor_nat (r / 2) 2197175160 (by omega) (by omega)
  rw [← this]; congr 1

set_option maxRecDepth 100000 in
theorem table_any (w : World) : Calls Try.prog 32 #[] w fun e w' => e = .returned (.agg (cellsOf .u32 (tabTo 256)).toArray) ∧ Below w.heap.size w w' := by
  go_enter Try.func32, Try.ntmps32
  go_wp2_with (refine wpList_alloc_arr (Try.zeroTab _) rfl rfl ?_)
  intro w1 B1 b1 l1
  go_wp2_with (refine wpList_alloc_arr (Try.zeroTab _) rfl rfl ?_)
  intro w2 B2 b2 l2
  have C1 := B1.call b2
  have d2 := b1.trans (b2.mono b1.size)
  clear B1 b1 b2
  go_wp2
  go_loopw [2, 3, 4, 9] (fun _ _ i _ wr => ∃ n : Nat, n ≤ 256 ∧ i = .int .i64 n ∧ Buf .u32 47 wr w1.heap.size (tabTo n) ∧ Buf .u32 47 wr w.heap.size (tabTo 0) ∧ Below w.heap.size w wr) (fun _ _ i _ _ => 256 - (intOf i).toNat)
  case atStart => exact ⟨0, by omega, rfl, B2, C1, d2⟩
  case round =>
    obtain ⟨n, hn, rfl, hB, hC, hb⟩ := hrel
    clear B2 C1 d2 l2
    by_cases hlt : n < 256
    · go_wp2
      go_loop [3, 9] (fun r j => ∃ m : Nat, m ≤ 8 ∧ j = .int .i64 m ∧ r = .int .u32 (crcIter m n : Nat)) (fun _ j => 8 - (intOf j).toNat)
      case atStart => exact ⟨0, by omega, rfl, rfl⟩
      case round =>
        obtain ⟨m, hm, rfl, rfl⟩ := hrel
        have hlt := crcIter_lt (r := n) (by omega) m
        by_cases hm8 : m < 8
        · obtain ⟨r, hr⟩ : ∃ r, r = crcIter m n := ⟨_, rfl⟩
          rw [← hr] at hlt ⊢
          have HS : Hid (crcIter (m + 1) n = crcStep r) := by rw [hr]; rfl
          clear hr
          have hx := u32_xorP r hlt
          have ha := u32_and1 r hlt
          by_cases hp : r % 2 = 1
          · have ha' : bits .and .u32 (r : Int) 1 = 1 := by rw [ha, hp]; rfl
            have HP := Lib.hid hp
            clear ha hp
            go_wp2
            go_round
            case rel => exact ⟨m + 1, by omega, by go_num, by rw [HS.out, crcStep, if_pos HP.out]⟩
            case measure => simp [intOf]; omega
          · have ha' : bits .and .u32 (r : Int) 1 = 0 := by rw [ha, show r % 2 = 0 by omega]; rfl
            have HP := Lib.hid hp
            clear ha hp
            go_wp2
            go_round
            case rel => exact ⟨m + 1, by omega, by go_num, by rw [HS.out, crcStep, if_neg HP.out]; go_num⟩
            case measure => simp [intOf]; omega
        · obtain rfl : m = 8 := by omega
          have hc : wr.cell? ⟨w1.heap.size, n, none⟩ = some (.int .u32 ((tabTo n).getD n 0 : Nat)) := hB.cell (by rw [tabTo_length (by omega)]; omega)
          have hf := hB.frozen n
          go_wp2
          go_roundw
          case rel => exact ⟨n + 1, by omega, by go_num, by rw [← tabTo_set (by omega)]; exact hB.set_ n _, hC.far (by simp; omega) _, hb.setCell (by simp; omega) _⟩
          case measure => simp [intOf]; omega
    · obtain rfl : n = 256 := by omega
      go_wp2_with (first | (refine wpList_load_buf hB Try.underlying47 rfl (by rw [tabTo_length (by omega)]; exact Try.sizeTab) rfl rfl rfl ?_) | (refine wpList_store_buf (ys := tabTo 256) hC (by rw [tabTo_length (by omega), tabTo_length (by omega)]) (by rw [tabTo_length (by omega)]; exact Try.sizeTab) rfl rfl rfl rfl ?_))
      intro w3 hD hg hsz
      have HD := Lib.hid hD
      have HS := Lib.hid hsz
      clear hsz hD hB hC
      have hb3 : Below w.heap.size w w3 := below_grown hb hg hb.size (Nat.le_refl _)
      clear hg hb
      go_wp2
      refine bodyPost_ret (results_cell_row Try.results32 _ _ w.heap.size _ _ (0, 0) _ rfl HD.out Try.underlying47 rfl ?_) rfl ?_
      · rw [Try.sizeTab]
        simp only [List.size_toArray, cellsOf_length]
        rw [tabTo_length (by omega)]
      · exact ⟨rfl, hb3⟩

theorem u8_xor_idx (s c : Nat) (hc : c < 256) : bits .xor .u8 ((s : Int) % 256) (c : Int) = ((s % 256 ^^^ c : Nat) : Int) := by
  have := u8_xor_nat (s % 256) c (by omega) hc
  rw [← this]; congr 1
theorem u32_xor_shr (t s : Nat) (ht : t < 4294967296) (h : s < 4294967296) : bits .xor .u32 (t : Int) ((s : Int) / 256) = ((t ^^^ s / 256 : Nat) : Int) := by
  have := u32_xor_nat t (s / 256) ht (by omega)
  rw [← this]; congr 1

theorem nat_not32 (s : Nat) (h : s < 4294967296) : 4294967295 ^^^ s = 4294967295 - s := by
  have h1 : (BitVec.allOnes 32 ^^^ BitVec.ofNat 32 s).toNat = 4294967295 ^^^ s := by
    rw [BitVec.toNat_xor, BitVec.toNat_allOnes, BitVec.toNat_ofNat, Nat.mod_eq_of_lt (by omega)]
  have h2 : (BitVec.allOnes 32 ^^^ BitVec.ofNat 32 s) = ~~~ (BitVec.ofNat 32 s) := by
    rw [BitVec.xor_comm, BitVec.xor_allOnes]
  rw [← h1, h2, BitVec.toNat_not, BitVec.toNat_ofNat, Nat.mod_eq_of_lt (by omega)]
theorem u32_not (s : Nat) (h : s < 4294967296) : bits .xor .u32 IntKind.u32.max (s : Int) = ((4294967295 - s : Nat) : Int) := by
  have := u32_xor_nat 4294967295 s (by omega) h
  rw [nat_not32 s h] at this
  exact this

set_option maxRecDepth 100000 in
theorem checksum_any {A : Option Addr} {n c B : Nat} {xs : List Nat} (w : World) (hr : Rd .u8 w B A n xs) (hB : B ≤ w.heap.size) (hx : ∀ x ∈ xs, x < 256) (hn : n ≤ 9223372036854775807) :
    Calls Try.prog 18 #[.slice A n c] w fun e w' => e = .returned (.int .u32 (crc xs : Nat)) ∧ Below w.heap.size w w' := by
  go_enter Try.func18, Try.ntmps18
  go_wp2_with fail
  refine (table_any _).mono ?_
  rintro e w1 ⟨rfl, b1⟩
  have r1 := hr.below (b1.mono hB)
  go_wp2_with (refine wpList_alloc_arr (Try.zeroTab _) rfl rfl ?_)
  intro w2 B2 b2 l2
  have r2 := r1.below (b2.mono (Nat.le_trans hB b1.size))
  have c2 := b1.trans (b2.mono b1.size)
  have l1 := b1.size
  clear b1 b2 r1
  go_wp2_with (refine wpList_store_buf (ys := tabTo 256) B2 (by rw [tabTo_length (by omega), tabTo_length (by omega)]) (by rw [tabTo_length (by omega)]; exact Try.sizeTab) rfl rfl rfl rfl ?_)
  intro w3 B3 g3 s3
  have r3 := r2.grown g3 (by omega) (fun g hg => by injection hg with hg; omega)
  have c3 := below_grown c2 g3 c2.size l1
  clear s3 g3 B2 c2 r2 hr
  have HB := Lib.hid B3
  clear B3
  have hl := r3.len
  have HL := Lib.hid hl
  clear hl
  have Hx := Lib.hid hx
  clear hx
  go_wp2
  go_loop [4, 6, 10] (fun s _ i => ∃ k : Nat, k ≤ n ∧ i = .int .i64 k ∧ s = .int .u32 (crcRun 4294967295 (xs.take k) : Nat)) (fun _ _ i => n - (intOf i).toNat)
  case atStart => exact ⟨0, by omega, rfl, rfl⟩
  case round =>
    obtain ⟨k, hk, rfl, rfl⟩ := hrel
    by_cases hlt : k < n
    · obtain ⟨b, off, rfl, hbB, hc⟩ := r3.at_ hlt
      have HS := Lib.hid (crcRun_snoc 4294967295 (xs.take k) (xs.getD k 0))
      have hs := crcRun_lt (xs.take k) 4294967295 (by omega) (fun x h => Hx.out x (List.mem_of_mem_take h))
      rw [← take_getD xs k (by rw [HL.out]; exact hlt)] at HS
      have hy := getD_lt xs k 256 Hx.out (by omega)
      generalize crcRun 4294967295 (xs.take k) = s at *
      generalize xs.getD k 0 = y at *
      have e1 := u8_xor_idx s y hy
      have hi : (s % 256 ^^^ y) < 256 := Nat.xor_lt_two_pow (n := 8) (by omega) hy
      have ht := HB.out.cell' _ _ (tabTo_get hi)
      have e2 := u32_xor_shr _ s (crcIter_lt (r := s % 256 ^^^ y) (by omega) 8) hs
      have HE := Lib.hid (crc_tab s y hy)
      generalize crcIter 8 (s % 256 ^^^ y) = tv at *
      generalize s % 256 ^^^ y = ix at *
      go_wp2
      go_round
      case rel => exact ⟨k + 1, by omega, by go_num, by rw [HS.out, HE.out]⟩
      case measure => simp [intOf]; omega
    · obtain rfl : k = n := by omega
      have hs := crcRun_lt (xs.take k) 4294967295 (by omega) (fun x h => Hx.out x (List.mem_of_mem_take h))
      rw [List.take_of_length_le (by rw [HL.out]; omega)] at hs ⊢
      have HC : Hid (crc xs = 4294967295 - crcRun 4294967295 xs) := rfl
      generalize crcRun 4294967295 xs = s at *
      go_wp2
      go_ret
      refine ⟨?_, c3⟩
      rw [HC.out, ← u32_not s hs]
      rfl

set_option maxRecDepth 100000 in
theorem refChecksum_any {A : Option Addr} {n c B : Nat} {xs : List Nat} (w : World) (r3 : Rd .u8 w B A n xs) (hx : ∀ x ∈ xs, x < 256) (hn : n ≤ 9223372036854775807) :
    Calls Try.prog 19 #[.slice A n c] w fun e w' => e = .returned (.int .u32 (crc xs : Nat)) ∧ w = w' := by
  have hl := r3.len
  have HL := Lib.hid hl
  clear hl
  have Hx := Lib.hid hx
  clear hx
  go_enter Try.func19, Try.ntmps19
  go_wp2
  go_loop [3, 4, 5] (fun s i _ => ∃ k : Nat, k ≤ n ∧ i = .int .i64 k ∧ s = .int .u32 (crcRun 4294967295 (xs.take k) : Nat)) (fun _ i _ => n - (intOf i).toNat)
  case atStart => exact ⟨0, by omega, rfl, rfl⟩
  case round =>
    obtain ⟨k, hk, rfl, rfl⟩ := hrel
    by_cases hlt : k < n
    · obtain ⟨b, off, rfl, hbB, hc⟩ := r3.at_ hlt
      have HS := Lib.hid (crcRun_snoc 4294967295 (xs.take k) (xs.getD k 0))
      have hs := crcRun_lt (xs.take k) 4294967295 (by omega) (fun x h => Hx.out x (List.mem_of_mem_take h))
      rw [← take_getD xs k (by rw [HL.out]; exact hlt)] at HS
      have hy := getD_lt xs k 256 Hx.out (by omega)
      generalize crcRun 4294967295 (xs.take k) = s at *
      generalize xs.getD k 0 = y at *
      have e1 := u32_xor_nat s y hs (by omega)
      have hi : (s ^^^ y) < 4294967296 := Nat.xor_lt_two_pow (n := 32) hs (by omega)
      generalize s ^^^ y = z at *
      go_wp2
      go_loop [3, 5] (fun r j => ∃ m : Nat, m ≤ 8 ∧ j = .int .i64 m ∧ r = .int .u32 (crcIter m z : Nat)) (fun _ j => 8 - (intOf j).toNat)
      case atStart => exact ⟨0, by omega, rfl, rfl⟩
      case round =>
        obtain ⟨m, hm, rfl, rfl⟩ := hrel
        have hlt := crcIter_lt (r := z) (by omega) m
        by_cases hm8 : m < 8
        · obtain ⟨r, hr⟩ : ∃ r, r = crcIter m z := ⟨_, rfl⟩
          rw [← hr] at hlt ⊢
          have HT : Hid (crcIter (m + 1) z = crcStep r) := by rw [hr]; rfl
          clear hr
          have hx := u32_xorP r hlt
          have ha := u32_and1 r hlt
          by_cases hp : r % 2 = 1
          · have ha' : bits .and .u32 (r : Int) 1 = 1 := by rw [ha, hp]; rfl
            have HP := Lib.hid hp
            clear ha hp
            go_wp2
            go_round
            case rel => exact ⟨m + 1, by omega, by go_num, by rw [HT.out, crcStep, if_pos HP.out]⟩
            case measure => simp [intOf]; omega
          · have ha' : bits .and .u32 (r : Int) 1 = 0 := by rw [ha, show r % 2 = 0 by omega]; rfl
            have HP := Lib.hid hp
            clear ha hp
            go_wp2
            go_round
            case rel => exact ⟨m + 1, by omega, by go_num, by rw [HT.out, crcStep, if_neg HP.out]; go_num⟩
            case measure => simp [intOf]; omega
        · obtain rfl : m = 8 := by omega
          go_wp2
          go_round
          case rel => exact ⟨k + 1, by omega, by go_num, by rw [HS.out]⟩
          case measure => simp [intOf]; omega
    · obtain rfl : k = n := by omega
      have hs := crcRun_lt (xs.take k) 4294967295 (by omega) (fun x h => Hx.out x (List.mem_of_mem_take h))
      rw [List.take_of_length_le (by rw [HL.out]; omega)] at hs ⊢
      have HC : Hid (crc xs = 4294967295 - crcRun 4294967295 xs) := rfl
      generalize crcRun 4294967295 xs = s at *
      go_wp2
      go_ret
      refine ⟨?_, rfl⟩
      rw [HC.out, ← u32_not s hs]
      rfl
end Go.Proofs.Ythiihejbjfmbkaa
