/- Walk of mulAddWord. -/
import Derived.Test.YtociocengfjioaaGreatDoorFmtPlain
import Derived.Test.YtociocengfjioaaGreatDoorIntA
import Derived.Test.YtociocengfjioaaGreatDoorIntD
/- Plain law of decimal texts: the value of digits, what a parser answers. -/
namespace Go.Proofs.YtociocengfjioaaGreatDoor
open Go.RowKit

/-- the value of decimal digits -/
def nd (l : List Nat) : Nat := l.foldl (fun a c => a * 10 + (c - 48)) 0
theorem nd_nil : nd [] = 0 := rfl
theorem nd_snoc (l : List Nat) (c : Nat) : nd (l ++ [c]) = nd l * 10 + (c - 48) := by simp [nd, List.foldl_append]
theorem nd_from (l : List Nat) : ∀ a, l.foldl (fun a c => a * 10 + (c - 48)) a = a * 10 ^ l.length + nd l := by
  induction l with
  | nil => intro a; simp [nd]
  | cons c l ih =>
    intro a
    have e : nd (c :: l) = l.foldl (fun a c => a * 10 + (c - 48)) (0 * 10 + (c - 48)) := rfl
    rw [e, List.foldl_cons, List.length_cons, ih, ih (0 * 10 + (c - 48)), Nat.pow_succ]
    generalize 10 ^ l.length = P
    generalize c - 48 = d
    grind
theorem nd_append (xs ys : List Nat) : nd (xs ++ ys) = nd xs * 10 ^ ys.length + nd ys := by
  unfold nd
  rw [List.foldl_append]
  exact nd_from ys _
/-- decimal digits alone -/
def okD (l : List Nat) : Prop := ∀ c ∈ l, 48 ≤ c ∧ c ≤ 57
theorem okD.getD {l : List Nat} (h : okD l) {k : Nat} (hk : k < l.length) : 48 ≤ l.getD k 0 ∧ l.getD k 0 ≤ 57 := by
  rw [List.getD_eq_getElem?_getD, List.getElem?_eq_getElem hk]
  exact h _ (List.getElem_mem hk)
theorem okD.take {l : List Nat} (h : okD l) (k : Nat) : okD (l.take k) := fun c hc => h c (List.mem_of_mem_take hc)
theorem okD.drop {l : List Nat} (h : okD l) (k : Nat) : okD (l.drop k) := fun c hc => h c (List.mem_of_mem_drop hc)
theorem okD_of {l : List Nat} (h : ∀ k, k < l.length → 48 ≤ l.getD k 0 ∧ l.getD k 0 ≤ 57) : okD l := by
  intro c hc
  obtain ⟨k, hk, rfl⟩ := List.mem_iff_getElem.1 hc
  have := h k hk
  rwa [List.getD_eq_getElem?_getD, List.getElem?_eq_getElem hk] at this
theorem nd_lt : ∀ (n : Nat) (l : List Nat), l.length = n → okD l → nd l < 10 ^ n := by
  intro n
  induction n with
  | zero => intro l h _; obtain rfl := List.eq_nil_of_length_eq_zero h; decide
  | succ n ih =>
    intro l h hd
    have e : l = l.take n ++ [l.getD n 0] := by
      rw [← take_getD l n (by omega), List.take_of_length_le (by omega)]
    have h1 := ih (l.take n) (by rw [List.length_take]; omega) (hd.take n)
    have h2 := hd.getD (k := n) (by omega)
    rw [e, nd_snoc, Nat.pow_succ]
    omega
theorem nd_dec (n : Nat) : nd (dec n) = n := by
  induction n using Nat.strongRecOn with
  | ind n ih =>
    by_cases h : n < 10
    · rw [dec_small h]; simp [nd]
    · rw [dec_big (by omega), nd_snoc, ih (n / 10) (by omega)]; omega
theorem nd_take_succ (l : List Nat) (k : Nat) (h : k < l.length) : nd (l.take (k + 1)) = nd (l.take k) * 10 + (l.getD k 0 - 48) := by
  rw [take_getD l k h, nd_snoc]

/-- digits, one or more, of which the first is not 0 unless it is the only one -/
def Deci (l : List Nat) : Prop := l ≠ [] ∧ okD l ∧ ¬ (l.getD 0 0 = 48 ∧ 1 < l.length)
def GoodB (neg : Bool) (l : List Nat) : Prop := Deci l ∧ ¬ (neg = true ∧ l = [48])
def pNeg (l : List Nat) : Bool := l.getD 0 0 == 45
def pBody (l : List Nat) : List Nat := if pNeg l then l.drop 1 else l
/-- the answer of a parser: number and code -/
def PA (l : List Nat) (z code : Int) : Prop :=
  (400 < l.length ∧ code = 10 ∧ z = 0) ∨ (l.length ≤ 400 ∧ GoodB (pNeg l) (pBody l) ∧ code = 0 ∧ z = sgn (pNeg l) (nd (pBody l))) ∨ (l.length ≤ 400 ∧ ¬ GoodB (pNeg l) (pBody l) ∧ code = 1 ∧ z = 0)
theorem PA_ex (l : List Nat) : ∃ z code, PA l z code := by
  by_cases h : 400 < l.length
  · exact ⟨_, _, .inl ⟨h, rfl, rfl⟩⟩
  · by_cases g : GoodB (pNeg l) (pBody l)
    · exact ⟨_, _, .inr (.inl ⟨by omega, g, rfl, rfl⟩)⟩
    · exact ⟨_, _, .inr (.inr ⟨by omega, g, rfl, rfl⟩)⟩
theorem bad_nil {neg : Bool} {l : List Nat} (h : l.length = 0) : ¬ GoodB neg l := fun g => g.1.1 (List.eq_nil_of_length_eq_zero h)
theorem bad_zero {neg : Bool} {l : List Nat} (h : l.getD 0 0 = 48) (h1 : 1 < l.length ∨ neg = true) : ¬ GoodB neg l := by
  intro g
  rcases Nat.lt_trichotomy l.length 1 with h2 | h2 | h2
  · exact bad_nil (by omega) g
  · refine g.2 ⟨by rcases h1 with h1 | h1; omega; exact h1, ?_⟩
    match l, h2 with
    | [x], _ => simp at h; rw [h]
  · exact g.1.2.2 ⟨h, h2⟩
theorem bad_digit {neg : Bool} {l : List Nat} {k : Nat} (hk : k < l.length) (h : l.getD k 0 < 48 ∨ 57 < l.getD k 0) : ¬ GoodB neg l := by
  intro g
  have := g.1.2.1.getD hk
  omega
theorem good_of {neg : Bool} {l : List Nat} (h0 : 0 < l.length) (hd : okD l) (h : ¬ (l.getD 0 0 = 48 ∧ (1 < l.length ∨ neg = true))) : GoodB neg l := by
  refine ⟨⟨fun e => by rw [e] at h0; simp at h0, hd, fun g => h ⟨g.1, .inl g.2⟩⟩, ?_⟩
  rintro ⟨h1, rfl⟩
  exact h ⟨rfl, .inr h1⟩
theorem dec_head (n : Nat) (h : n ≠ 0) : (dec n).getD 0 0 ≠ 48 := by
  induction n using Nat.strongRecOn with
  | ind n ih =>
    by_cases h1 : n < 10
    · rw [dec_small h1]; simp; omega
    · have := ih (n / 10) (by omega) (by omega)
      rw [dec_big (by omega), List.getD_eq_getElem?_getD, List.getElem?_append_left (dec_pos (n / 10)), ← List.getD_eq_getElem?_getD]
      exact this
theorem dec_good (neg : Bool) (n : Nat) (h : n ≠ 0 ∨ neg = false) : GoodB neg (dec n) := by
  by_cases h0 : n = 0
  · subst h0
    obtain rfl : neg = false := by rcases h with h | h; exact absurd rfl h; exact h
    exact good_of (dec_pos 0) (dec_digit 0) (by rw [dec_small (by omega)]; simp)
  · exact good_of (dec_pos n) (dec_digit n) (fun g => dec_head n h0 g.1)
theorem dec_getD0 (n : Nat) : (dec n).getD 0 0 ≠ 45 := by
  have := (show okD (dec n) from dec_digit n).getD (k := 0) (dec_pos n)
  omega
theorem pNeg_decz (s : Bool) (n : Nat) : pNeg (decz s n) = (s && decide (n ≠ 0)) ∧ pBody (decz s n) = dec n := by
  have h0 := dec_getD0 n
  by_cases h : s = true ∧ n ≠ 0
  · have e : decz s n = 45 :: dec n := by unfold decz; rw [if_pos h]; rfl
    obtain ⟨h1, h2⟩ := h
    subst h1
    rw [e]
    simp [pNeg, pBody, h2]
  · have e : decz s n = dec n := by unfold decz; rw [if_neg h]; rfl
    have h3 : pNeg (dec n) = false := by unfold pNeg; simpa using h0
    rw [e]
    refine ⟨?_, by unfold pBody; rw [h3]; rfl⟩
    rw [h3]
    cases s
    · simp
    · have : n = 0 := by
        by_cases hn : n = 0
        · exact hn
        · exact absurd ⟨rfl, hn⟩ h
      simp [this]
theorem PA_decz (s : Bool) (n : Nat) (h : (decz s n).length ≤ 400) : PA (decz s n) (sgn s n) 0 := by
  obtain ⟨h1, h2⟩ := pNeg_decz s n
  refine .inr (.inl ⟨h, ?_, rfl, ?_⟩)
  · rw [h1, h2]
    refine dec_good _ n ?_
    by_cases hn : n = 0
    · right; simp [hn]
    · exact .inl hn
  · rw [h1, h2, nd_dec]
    by_cases hn : n = 0
    · subst hn; cases s <;> simp [sgn]
    · simp [hn]
theorem PA_decz_long (s : Bool) (n : Nat) (h : 400 < (decz s n).length) : PA (decz s n) 0 10 := .inl ⟨h, rfl, rfl⟩
end Go.Proofs.YtociocengfjioaaGreatDoor

namespace Go.Proofs.YtociocengfjioaaGreatDoor
open Go.RowKit
set_option linter.unusedVariables false

theorem Own.setAt {k : IntKind} {e : TypeId} {w0 w : World} {g n c : Nat} {xs : List Nat} (h : Own k e w0 w (.slice (some ⟨g, 0, none⟩) n c) xs) (i : Nat) {z : Int} {y : Nat} (hz : z = (y : Int)) :
    Own k e w0 (w.setCell ⟨g, i, none⟩ (.int k z)) (.slice (some ⟨g, 0, none⟩) n c) (xs.set i y) := by
  subst hz
  rcases h.1.2 with ⟨hv, _⟩ | ⟨g', cap, cur, hv, hg, hh, hnc, hcm, hcs, ht⟩
  · injection hv with hv; cases hv
  · injection hv with h1 h2 h3
    injection h1 with h1
    injection h1 with h1
    subst h1 h2 h3
    refine ⟨⟨by simp [cellsOf], .inr ⟨g, c, cur.setIfInBounds i (.int k (y : Int)), by rw [List.length_set], hg, ?_, by rw [List.length_set]; exact hnc, hcm, by simpa using hcs, ?_⟩⟩, h.2.setCell hg _⟩
    · simp [World.setCell, Array.getElem?_modify, hh]
    · rw [List.length_set, Array.toList_setIfInBounds, List.take_set, ht]
      simp [cellsOf, List.map_set]
theorem Own.block {k : IntKind} {e : TypeId} {w0 w : World} {A : Option Addr} {n c : Nat} {xs : List Nat} (h : Own k e w0 w (.slice A n c) xs) (h0 : 0 < n) : ∃ g, A = some ⟨g, 0, none⟩ ∧ Mut k e w g xs := by
  rcases h.1.2 with ⟨hv, _⟩ | ⟨g', cap, cur, hv, hg, hh, hnc, hcm, hcs, ht⟩
  · injection hv with h1 h2 h3; omega
  · injection hv with h1 h2 h3
    exact ⟨g', h1, cur, hh, by omega, by simpa using ht⟩
theorem Own.len' {k : IntKind} {e : TypeId} {w0 w : World} {A : Option Addr} {n c : Nat} {xs : List Nat} (h : Own k e w0 w (.slice A n c) xs) : xs.length = n ∧ n ≤ c ∧ c ≤ 9223372036854775807 := by
  obtain ⟨A', c', hv, _, h1, h2⟩ := h.form
  injection hv with h3 h4 h5
  omega

theorem muladd_facts {d f cr : Nat} (hd : d < 4294967296) (hf : f < 4294967296) (hcr : cr < 4294967296) : ∃ p s : Nat, IntKind.u64.wrap ((d : Int) * (f : Int)) = (p : Int) ∧ IntKind.u64.wrap ((cr : Int) + (p : Int)) = (s : Int) ∧
    s = cr + d * f ∧ s < 18446744073709551616 ∧ s / 4294967296 < 4294967296 ∧ s % 4294967296 < 4294967296 ∧ p < 18446744073709551616 := by
  have hb := mul_bound hd hf
  have e : ((d * f : Nat) : Int) = (d : Int) * (f : Int) := by simp
  refine ⟨d * f, cr + d * f, ?_, ?_, rfl, by omega, by omega, by omega, by omega⟩
  · rw [← e, IntKind.wrap_u64]; omega
  · rw [IntKind.wrap_u64]; omega
theorem muladd_step {V P cr v K c d s : Nat} (h : V + P * cr = v * K + c) (hs : s = cr + d * K) : (V + P * (s % 4294967296)) + P * 4294967296 * (s / 4294967296) = (v + P * d) * K + c := by
  have e : P * (s % 4294967296) + P * 4294967296 * (s / 4294967296) = P * s := by rw [Nat.mul_assoc, ← Nat.mul_add, Nat.mod_add_div]
  have e2 : P * s = P * cr + P * d * K := by rw [hs, Nat.mul_add, Nat.mul_assoc]
  rw [Nat.add_mul, Nat.add_assoc, e, e2]
  omega
theorem set_mid2 (ds ms : List Nat) (k y : Nat) (hk : k < ms.length) (hl : ds.length = k) : (ds ++ ms.drop k).set k y = (ds ++ [y]) ++ ms.drop (k + 1) := by
  rw [drop_getD ms k hk, List.set_append_right _ _ (by omega), hl, Nat.sub_self]
  simp

def RetMA (e32 : TypeId) (w0 : World) (v n : Nat) (e : Ending) (w' : World) : Prop :=
  ∃ A m c ms, e = .returned (.slice A m c) ∧ Own .u32 e32 w0 w' (.slice A m c) ms ∧ W32 ms ∧ val ms = v ∧ m ≤ n + 1

set_option maxHeartbeats 1000000 in
set_option maxRecDepth 100000 in
theorem mulAddWord_any {w0 : World} {A : Option Addr} {n c K C : Nat} {ms : List Nat} (w : World) (ho : Own .u32 86 w0 w (.slice A n c) ms) (hm : W32 ms) (hn : n ≤ 1048576) (hK : K < 4294967296) (hC : C < 4294967296) :
    Calls Tryz.prog 131 #[.slice A n c, .int .u32 K, .int .u32 C] w (RetMA 86 w0 (val ms * K + C) n) := by
  obtain ⟨hl, hnc, hcb⟩ := ho.len'
  have HL := Lib.hid hl
  have HM := Lib.hid hm
  clear hm hl
  go_enter Tryz.func131, Tryz.ntmps131
  go_wp2
  go_loopw [7, 14] (fun cv i wr => ∃ (k cr : Nat) (ds : List Nat), k ≤ n ∧ i = .int .i64 k ∧ cv = .int .u64 cr ∧ cr < 4294967296 ∧ Hid (ds.length = k) ∧ Hid (W32 ds) ∧ Hid (val ds + 4294967296 ^ k * cr = val (ms.take k) * K + C) ∧ Own .u32 86 w0 wr (.slice A n c) (ds ++ ms.drop k)) (fun _ i _ => (n - intOf i).toNat)
  case atStart => exact ⟨0, C, [], by omega, rfl, rfl, hC, rfl, W32.nil, by simp [Hid, val], ho⟩
  case round =>
    obtain ⟨k, cr, ds, hk, rfl, rfl, hcr, hdl, hdw, HV, oR⟩ := hrel
    clear ho
    by_cases hlt : k < n
    · obtain ⟨g, rfl, mu⟩ := oR.block (by omega)
      have hg1 : k < (ds ++ ms.drop k).length := by rw [List.length_append, List.length_drop, HL.out, hdl.out]; omega
      have hc := mu.cell hg1
      have hf := mu.frozen k
      have e0 : (ds ++ ms.drop k).getD k 0 = ms.getD k 0 := by
        rw [drop_getD ms k (by rw [HL.out]; omega), List.getD_eq_getElem?_getD, List.getElem?_append_right (by rw [hdl.out]; omega), hdl.out, Nat.sub_self]
        rfl
      rw [e0] at hc
      have hd := HM.out.getD k
      have HTS := Lib.hid (val_take_succ ms k)
      have HS := Lib.hid (fun y => set_mid2 ds ms k y (by rw [HL.out]; omega) hdl.out)
      generalize ms.getD k 0 = d at *
      obtain ⟨p, s, e1, e2, es, hsb, hsq, hsm, hpb⟩ := muladd_facts hd hK hcr
      have HST := Lib.hid (muladd_step HV.out es)
      rw [← HTS.out] at HST
      have HF : Hid (val (ds ++ [s % 4294967296]) + 4294967296 ^ (k + 1) * (s / 4294967296) = val (ms.take (k + 1)) * K + C) := by
        unfold Hid
        rw [val_snoc, hdl.out, Nat.pow_succ]
        exact HST.out
      have i1 : (0 : Int) ≤ (k : Int) := by omega
      have i2 : (k : Int) < (n : Int) := by omega
      have q1 : (s : Int) % 4294967296 = ((s % 4294967296 : Nat) : Int) := by simp
      clear es mu e0 hg1 q1
      go_wp2
      go_roundw
      case rel =>
        refine ⟨k + 1, s / 4294967296, ds ++ [s % 4294967296], by omega, by go_num, by go_num, hsq, ?_, hdw.out.append (W32.mk hsm W32.nil), HF, ?_⟩
        · unfold Hid; rw [List.length_append, hdl.out]; rfl
        · rw [← HS.out]; exact oR.setAt k (by omega)
      case measure => simp [intOf] <;> omega
    · obtain rfl : k = n := by omega
      rw [List.drop_of_length_le (by rw [HL.out]; omega), List.append_nil] at oR
      have hv := HV.out
      rw [List.take_of_length_le (by rw [HL.out]; omega)] at hv
      have HE := Lib.hid hv
      clear hv HV
      generalize val ms * K + C = V at *
      by_cases h0 : cr = 0
      · subst h0
        have b0 : (((0 : Nat) : Int) != 0) = false := by decide
        go_wp2
        go_ret
        exact ⟨A, k, c, ds, rfl, oR, hdw.out, by have := HE.out; simpa using this, by omega⟩
      · have b0 : (((cr : Nat) : Int) != 0) = true := by simp; omega
        have hcw : cr % 4294967296 = cr := Nat.mod_eq_of_lt hcr
        have hdl2 := hdl.out
        go_wp2_with (at_builtin; refine wpList_append_lst Tryz.elemU32 Tryz.underlying22 (oR.alloc _) (Rd.one .u32 wr _ (y := cr) (by omega)) rfl rfl rfl rfl (by omega) (by omega) ?_; intro v1 w1 o1 _ _)
        obtain ⟨A1, n1, c1, rfl, r1, _, _⟩ := o1.form'
        have hl1 := r1.len
        go_ret
        refine ⟨A1, n1, c1, ds ++ [cr], rfl, o1, hdw.out.append (W32.mk hcr W32.nil), ?_, ?_⟩
        · rw [val_snoc, hdl.out]; exact HE.out
        · rw [← hl1, List.length_append, hdl.out]; simp
end Go.Proofs.YtociocengfjioaaGreatDoor
