/- A frame read back; its proper beginnings; one bit changed: plain lemmas. -/
import Derived.Test.YthiihejbjfmbkaaFramePlain
import Derived.Test.YthiihejbjfmbkaaWireBackPlain
namespace Go.Proofs.Ythiihejbjfmbkaa
theorem xor_right_cancel {a b c : Nat} (h : a ^^^ c = b ^^^ c) : a = b := by
  have : (a ^^^ c) ^^^ c = (b ^^^ c) ^^^ c := by rw [h]
  rwa [Nat.xor_assoc, Nat.xor_self, Nat.xor_zero, Nat.xor_assoc, Nat.xor_self, Nat.xor_zero] at this
theorem crcStep_inj {a b : Nat} (ha : a < 4294967296) (hb : b < 4294967296) (h : crcStep a = crcStep b) : a = b := by
  have top : ∀ x, x < 2147483648 → (x ^^^ 2197175160) ≥ 2147483648 := by
    intro x hx
    have h1 : (x ^^^ 2197175160) / 2147483648 = x / 2147483648 ^^^ 2197175160 / 2147483648 := by
      have := Nat.shiftRight_xor_distrib (a := x) (b := 2197175160) (i := 31)
      simpa [Nat.shiftRight_eq_div_pow] using this
    rw [Nat.div_eq_of_lt hx] at h1
    have h2 : 0 ^^^ 2197175160 / 2147483648 = 1 := by decide
    omega
  unfold crcStep at h
  split at h <;> split at h
  · have := xor_right_cancel h; omega
  · have := top (a / 2) (by omega); omega
  · have := top (b / 2) (by omega); omega
  · omega
theorem crcIter_inj {a b : Nat} (ha : a < 4294967296) (hb : b < 4294967296) : ∀ n, crcIter n a = crcIter n b → a = b
  | 0, h => h
  | n + 1, h => crcIter_inj ha hb n (crcStep_inj (crcIter_lt ha n) (crcIter_lt hb n) h)
theorem crcRun_inj : ∀ (xs : List Nat) (a b : Nat), a < 4294967296 → b < 4294967296 → (∀ x ∈ xs, x < 256) → crcRun a xs = crcRun b xs → a = b
  | [], _, _, _, _, _, h => h
  | x :: xs, a, b, ha, hb, hx, h => by
    have hx1 := hx x List.mem_cons_self
    have la : a ^^^ x < 4294967296 := Nat.xor_lt_two_pow (n := 32) ha (by omega)
    have lb : b ^^^ x < 4294967296 := Nat.xor_lt_two_pow (n := 32) hb (by omega)
    have h1 := crcRun_inj xs _ _ (crcIter_lt la 8) (crcIter_lt lb 8) (fun y hy => hx y (List.mem_cons_of_mem _ hy)) h
    exact xor_right_cancel (crcIter_inj la lb 8 h1)
theorem crcRun_append (s : Nat) (xs ys : List Nat) : crcRun s (xs ++ ys) = crcRun (crcRun s xs) ys := by simp [crcRun]
theorem crc_change (p q : List Nat) (c d : Nat) (hp : ∀ x ∈ p, x < 256) (hq : ∀ x ∈ q, x < 256) (hc : c < 256) (hd : d < 256) (hne : c ≠ d) : crc (p ++ c :: q) ≠ crc (p ++ d :: q) := by
  intro h
  have l1 := crcRun_lt (p ++ c :: q) 4294967295 (by omega) (by
    intro x hx
    rcases List.mem_append.1 hx with hx | hx
    · exact hp x hx
    · rcases List.mem_cons.1 hx with rfl | hx
      · exact hc
      · exact hq x hx)
  have l2 := crcRun_lt (p ++ d :: q) 4294967295 (by omega) (by
    intro x hx
    rcases List.mem_append.1 hx with hx | hx
    · exact hp x hx
    · rcases List.mem_cons.1 hx with rfl | hx
      · exact hd
      · exact hq x hx)
  unfold crc at h
  have h2 : crcRun 4294967295 (p ++ c :: q) = crcRun 4294967295 (p ++ d :: q) := by omega
  rw [crcRun_append, crcRun_append] at h2
  have ls := crcRun_lt p 4294967295 (by omega) hp
  generalize crcRun 4294967295 p = s at *
  have lc : s ^^^ c < 4294967296 := Nat.xor_lt_two_pow (n := 32) ls (by omega)
  have ld : s ^^^ d < 4294967296 := Nat.xor_lt_two_pow (n := 32) ls (by omega)
  have h3 := crcRun_inj q _ _ (crcIter_lt lc 8) (crcIter_lt ld 8) hq h2
  have h4 := crcIter_inj lc ld 8 h3
  rw [Nat.xor_comm s, Nat.xor_comm s] at h4
  exact hne (xor_right_cancel h4)

theorem sum4_len (s : Nat) : (sum4 s).length = 4 := rfl
theorem sum4_inj {a b : Nat} (ha : a < 4294967296) (hb : b < 4294967296) (h : sum4 a = sum4 b) : a = b := by
  simp only [sum4, List.cons.injEq, and_true] at h
  omega
theorem frameL_len (kind : Nat) (body : List Nat) : (frameL kind body).length = 1 + (encU body.length).length + body.length + 4 := by
  simp only [frameL, frameHead, List.length_append, List.length_cons, sum4_len]; omega

/-- what Unframe makes of bytes that begin with a kind and a length -/
theorem unframe_form (kind : Nat) (m : Nat) (r : List Nat) (hm : m ≤ 1048576) :
    unframe (kind :: (encU m ++ r)) = if r.length < m + 4 then (0, [], 0, 3) else
      if (r.drop m).take 4 = sum4 (crc (kind :: (encU m ++ r.take m))) then (kind, r.take m, 1 + (encU m).length + m + 4, 0) else (0, [], 0, 4) := by
  unfold unframe
  rw [if_neg (by simp), List.drop_one, List.tail_cons, decU_enc m r (by omega)]
  simp only [ne_eq, not_true_eq_false, if_false]
  rw [if_neg (by omega)]
  have e1 : (kind :: (encU m ++ r)).length - (1 + (encU m).length) = r.length := by simp only [List.length_cons, List.length_append]; omega
  have e2 : (kind :: (encU m ++ r)).drop (1 + (encU m).length + m) = r.drop m := by
    rw [show 1 + (encU m).length + m = ((encU m).length + m) + 1 by omega, List.drop_succ_cons, List.drop_append, List.drop_of_length_le (by omega), List.nil_append]
    congr 1; omega
  have e3 : (kind :: (encU m ++ r)).take (1 + (encU m).length + m) = kind :: (encU m ++ r.take m) := by
    rw [show 1 + (encU m).length + m = ((encU m).length + m) + 1 by omega, List.take_succ_cons, List.take_append, List.take_of_length_le (by omega)]
    congr 3; omega
  have e4 : (kind :: (encU m ++ r)).drop (1 + (encU m).length) = r := by
    rw [Nat.add_comm, List.drop_succ_cons, List.drop_append, List.drop_of_length_le (by omega), List.nil_append, Nat.sub_self, List.drop_zero]
  rw [e1, e2, e3, e4]
  rfl
theorem unframe_back (kind : Nat) (body rest : List Nat) (h : body.length ≤ 1048576) : unframe (frameL kind body ++ rest) = (kind, body, (frameL kind body).length, 0) := by
  have e : frameL kind body ++ rest = kind :: (encU body.length ++ (body ++ sum4 (crc (frameHead kind body)) ++ rest)) := by simp [frameL, frameHead]
  rw [e, unframe_form kind body.length _ h, frameL_len]
  rw [if_neg (by simp only [List.length_append, sum4_len]; omega)]
  have e2 : (body ++ sum4 (crc (frameHead kind body)) ++ rest).take body.length = body := by rw [List.append_assoc, List.take_left]
  have e3 : ((body ++ sum4 (crc (frameHead kind body)) ++ rest).drop body.length).take 4 = sum4 (crc (frameHead kind body)) := by
    rw [List.append_assoc, List.drop_left]
    exact List.take_left (l₁ := sum4 _)
  rw [e2, e3]
  exact if_pos rfl
theorem unframe_cut (kind : Nat) (body : List Nat) (i : Nat) (h : body.length ≤ 1048576) (hi : i < (frameL kind body).length) : unframe ((frameL kind body).take i) = (0, [], 0, 3) := by
  rw [frameL_len] at hi
  cases i with
  | zero => simp [unframe]
  | succ i =>
    have e : (frameL kind body).take (i + 1) = kind :: ((encU body.length ++ (body ++ sum4 (crc (frameHead kind body)))).take i) := by simp [frameL, frameHead]
    rw [e]
    by_cases hc : i < (encU body.length).length
    · have e2 : (encU body.length ++ (body ++ sum4 (crc (frameHead kind body)))).take i = (encU body.length).take i := by
        rw [List.take_append, show i - (encU body.length).length = 0 by omega, List.take_zero, List.append_nil]
      rw [e2]
      unfold unframe
      rw [if_neg (by simp), List.drop_one, List.tail_cons, decU_cut _ _ (by omega) hc]
      simp
    · rw [List.take_append, List.take_of_length_le (l := encU body.length) (by omega), unframe_form kind body.length _ h, if_pos]
      simp only [List.length_take, List.length_append, sum4_len]
      omega
theorem set_append_cons (p q : List Nat) (c d : Nat) : (p ++ c :: q).set p.length d = p ++ d :: q := by simp
/-- one byte behind the length changed -/
theorem unframe_change (kind : Nat) (body : List Nat) (j d : Nat) (h : body.length ≤ 1048576) (hk : kind < 256) (hb : ∀ x ∈ body, x < 256) (hj : j < body.length + 4) (hd : d < 256) (hne : (frameL kind body).getD (1 + (encU body.length).length + j) 0 ≠ d) :
    unframe ((frameL kind body).set (1 + (encU body.length).length + j) d) = (0, [], 0, 4) := by
  have hsb := sum4_byte (crc (frameHead kind body))
  have e : frameL kind body = kind :: (encU body.length ++ (body ++ sum4 (crc (frameHead kind body)))) := by simp [frameL, frameHead]
  have e1 : (frameL kind body).set (1 + (encU body.length).length + j) d = kind :: (encU body.length ++ ((body ++ sum4 (crc (frameHead kind body))).set j d)) := by
    rw [e, show 1 + (encU body.length).length + j = ((encU body.length).length + j) + 1 by omega, List.set_cons_succ, List.set_append_right _ _ (by omega)]
    congr 3; omega
  have e2 : (frameL kind body).getD (1 + (encU body.length).length + j) 0 = (body ++ sum4 (crc (frameHead kind body))).getD j 0 := by
    rw [e, show 1 + (encU body.length).length + j = ((encU body.length).length + j) + 1 by omega, List.getD_cons_succ, List.getD_eq_getElem?_getD, List.getElem?_append_right (by omega), List.getD_eq_getElem?_getD]
    congr 2; omega
  rw [e1, unframe_form kind body.length _ h, if_neg (by simp only [List.length_set, List.length_append, sum4_len]; omega), if_neg]
  rw [e2] at hne
  by_cases hjb : j < body.length
  · rw [List.set_append_left _ _ hjb]
    have t1 : (body.set j d ++ sum4 (crc (frameHead kind body))).take body.length = body.set j d := by
      rw [List.take_append, List.take_of_length_le (by simp), List.length_set, Nat.sub_self, List.take_zero, List.append_nil]
    have t2 : ((body.set j d ++ sum4 (crc (frameHead kind body))).drop body.length).take 4 = sum4 (crc (frameHead kind body)) := by
      rw [List.drop_append, List.drop_of_length_le (by simp), List.length_set, Nat.sub_self, List.drop_zero, List.nil_append]
      exact List.take_of_length_le (Nat.le_of_eq (sum4_len _))
    rw [t1, t2]
    intro hs
    have hcs := sum4_inj (crc_lt' _) (crc_lt' _) hs
    have hbd : body.getD j 0 ≠ d := by
      rwa [List.getD_eq_getElem?_getD, List.getElem?_append_left hjb, ← List.getD_eq_getElem?_getD] at hne
    have sp : body = body.take j ++ body.getD j 0 :: body.drop (j + 1) := by rw [← drop_getD body j hjb, List.take_append_drop]
    have sp2 : body.set j d = body.take j ++ d :: body.drop (j + 1) := by
      conv => lhs; rw [sp]
      have hl : (body.take j).length = j := by rw [List.length_take]; omega
      conv => lhs; rw [← hl]
      rw [hl, ← hl]
      simp
    have bb := encU_byte9 (n := body.length) (by omega)
    have := crc_change (kind :: (encU body.length ++ body.take j)) (body.drop (j + 1)) (body.getD j 0) d (by
        intro x hx
        rcases List.mem_cons.1 hx with rfl | hx
        · exact hk
        · rcases List.mem_append.1 hx with hx | hx
          · exact bb x hx
          · exact take_byte j hb x hx) (drop_byte _ hb) (getD_lt body j 256 hb (by omega)) hd hbd
    apply this
    have a1 : kind :: (encU body.length ++ body.take j) ++ body.getD j 0 :: body.drop (j + 1) = frameHead kind body := by
      rw [List.cons_append, List.append_assoc, ← sp]; rfl
    have a2 : kind :: (encU body.length ++ body.take j) ++ d :: body.drop (j + 1) = kind :: (encU body.length ++ body.set j d) := by
      rw [List.cons_append, List.append_assoc, ← sp2]
    rw [a1, a2]
    exact hcs
  · rw [List.set_append_right _ _ (by omega)]
    have t1 : (body ++ (sum4 (crc (frameHead kind body))).set (j - body.length) d).take body.length = body := by rw [List.take_left]
    have t2 : ((body ++ (sum4 (crc (frameHead kind body))).set (j - body.length) d).drop body.length).take 4 = (sum4 (crc (frameHead kind body))).set (j - body.length) d := by
      rw [List.drop_left]; exact List.take_of_length_le (by rw [List.length_set, sum4_len]; omega)
    rw [t1, t2]
    rw [List.getD_eq_getElem?_getD, List.getElem?_append_right (by omega), ← List.getD_eq_getElem?_getD] at hne
    intro hs
    apply hne
    have hlt : j - body.length < (sum4 (crc (frameHead kind body))).length := by rw [sum4_len]; omega
    have hs' : (sum4 (crc (frameHead kind body))).set (j - body.length) d = sum4 (crc (frameHead kind body)) := hs
    have hg : ((sum4 (crc (frameHead kind body))).set (j - body.length) d)[j - body.length]? = some d := by simp [hlt]
    rw [hs'] at hg
    rw [List.getD_eq_getElem?_getD, hg]
    rfl

theorem and_lt (a : Int) (m : Nat) (hm : m < 64) : ∃ k : Nat, k < 2 ^ m ∧ bits .and .i64 a ((2 ^ m - 1 : Nat) : Int) = (k : Int) := by
  refine ⟨(BitVec.ofInt 64 a).toNat % 2 ^ m, Nat.mod_lt _ (Nat.two_pow_pos m), ?_⟩
  have hle : 2 ^ m ≤ 2 ^ 63 := Nat.pow_le_pow_right (by omega) (by omega)
  have hpos : 0 < 2 ^ m := Nat.two_pow_pos m
  show IntKind.i64.wrap ((BitVec.ofInt 64 a &&& BitVec.ofInt 64 ((2 ^ m - 1 : Nat) : Int)).toNat : Int) = _
  rw [BitVec.toNat_and, IntKind.wrap_i64, BitVec.ofInt_natCast, BitVec.toNat_ofNat, Nat.mod_eq_of_lt (a := 2 ^ m - 1) (by omega), Nat.and_two_pow_sub_one_eq_mod]
  have := Nat.mod_lt (BitVec.ofInt 64 a).toNat hpos
  omega
theorem xor_bit_ne (y b : Nat) (hy : y < 256) (hb : b < 8) : (y ^^^ 2 ^ b) < 256 ∧ y ≠ (y ^^^ 2 ^ b) := by
  have hp : 2 ^ b < 256 := Nat.pow_lt_pow_right (n := 8) (a := 2) (by omega) hb
  refine ⟨Nat.xor_lt_two_pow (n := 8) hy hp, fun h => ?_⟩
  have h2 : y ^^^ y = y ^^^ (y ^^^ 2 ^ b) := by rw [← h]
  rw [Nat.xor_self, ← Nat.xor_assoc, Nat.xor_self, Nat.zero_xor] at h2
  have := Nat.two_pow_pos b
  omega
theorem u8_flip (y kb : Nat) (hy : y < 256) (hkb : kb < 8) : bits .xor .u8 (y : Int) (2 ^ kb % 256) = ((y ^^^ 2 ^ kb : Nat) : Int) := by
  have hp : 2 ^ kb < 256 := Nat.pow_lt_pow_right (n := 8) (a := 2) (by omega) hkb
  have h := u8_xor_nat y (2 ^ kb) hy hp
  have e : ((2 ^ kb : Nat) : Int) = (2 : Int) ^ kb := by simp
  have e2 : ∀ m : Nat, m < 256 → (m : Int) % 256 = (m : Int) := by omega
  rw [← e, e2 _ hp, h]
end Go.Proofs.Ythiihejbjfmbkaa
