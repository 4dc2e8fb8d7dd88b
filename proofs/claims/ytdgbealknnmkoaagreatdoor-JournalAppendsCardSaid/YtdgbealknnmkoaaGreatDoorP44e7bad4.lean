/- Texts of one proof, put together by a program: each lemma is proved for all values of its variables, under the premises that it states. -/
import Derived.Test.YtdgbealknnmkoaaGreatDoorP85a1959e
import Derived.Test.YtdgbealknnmkoaaGreatDoorPaf7936dd
import Derived.Test.YtdgbealknnmkoaaGreatDoorPef2637af
import Derived.Test.YtdgbealknnmkoaaGreatDoorP61586a78
set_option linter.unusedVariables false
set_option linter.unusedSimpArgs false
namespace Go.Proofs.YtdgbealknnmkoaaGreatDoor
open Go Go.RowKit
def CG (z : Int) : List Nat := Df (decide (z < 0)) z.natAbs
theorem Tp {N : Nat → Prop} {w w' : World} {z code : Int} {e : Ending} (h : Dv w z code e w') : ∃ v, e = .returned v ∧ (TV.tu [.ag (ic z), ci code]).sem (Nx N w w') w' G0 v ∧ Below w.heap.size w w' := by
 obtain ⟨s, A, n, c, e1, h1, h2⟩ := h;exact ⟨_, e1, ⟨_, rfl, _, _, rfl, ⟨[.bool s, .slice A n c], rfl, CW ⟨s, A, n, c, rfl, h1⟩⟩, _, _, rfl, rfl, rfl⟩, h2⟩
theorem Kx (w : World) (n : Nat) : Below w.heap.size w (w.drewN n) := ⟨rfl, rfl, rfl, Nat.le_refl _, fun _ _ => rfl⟩
section
variable {I : WInv} {x : List It} {z code : Int}
theorem Za (hx : Num x z) : Sp Tryz.prog Dr 91 [.ag x] (tS (CG z)) := ZV hx
theorem Vd (hx : Num x z) : Sp Tryz.prog I 96 [.ag x] (tS (CG z)) := by
 intro N w vs hI _ hv;obtain ⟨l, rfl, h1⟩ := Mn hv;obtain ⟨s, A, n, c, rfl, h2, h3⟩ := hx N w l h1;have e : AI (CG z) = AI (Df s z.natAbs) := (Sv h2.sign_eq).symm;unfold tS;rw [e];exact (Mv w h2 (by omega)).mono fun e w' he => H7 he
theorem Cw {xs : List Nat} (hx : B8 xs) (hp : PA xs z code) (hl : xs.length ≤ 9223372036854775807) : Sp Tryz.prog I 101 [cS xs] (.tu [.ag (ic z), ci code]) := by
 intro N w vs _ _ hv;rw [J7 hv];exact (T5 (AI xs) w (by rw [hx.bo]; exact hp) (by rw [BC]; exact hl)).mono fun e w' he => Tp he
theorem AaE (n : Nat) (hn : n ≤ 1000) : Sp Tryz.prog I 144 [cS [48], ci (n : Int)] (tS (List.replicate n 48)) := by
 intro N w vs _ _ hv;obtain ⟨v, r, rfl, h1, v2, r2, rfl, h3, h4⟩ := hv;have h1 : [v] = [.string (AI [48])] := h1;have h3 : [v2] = [.int .i64 (n : Int)] := h3;injection h1 with h1;injection h3 with h3;obtain rfl : r2 = [] := h4;subst h1 h3;refine (Tryz.strings_Repeat (AI [48]) n w (by omega) (by rw [BC]; simp; omega)).mono ?_
 rintro e w' ⟨rfl, hb⟩;have e1 : ∀ n, Lib.repeatL (AI [48]).data.toList n = (List.replicate n 48).map UInt8.ofNat := by
  intro n;rw [Cv];induction n with
  | zero => rfl
  | succ n ih => rw [Lib.repeatL, ih, List.replicate_succ, List.map_cons]; rfl
 rw [e1];exact ⟨_, rfl, (rfl : [_] = [_]), hb⟩
theorem Pk (xs : List Nat) (hx : B8 xs) : Lib.hasPrefix (xs.map UInt8.ofNat) [UInt8.ofNat 45] = BK xs := by
 unfold Lib.hasPrefix BK;cases xs with
 | nil => rfl
 | cons a l =>
  have ha := hx a (by simp)
  simp only [List.map_cons, List.isPrefixOf, List.getD_cons_zero, Bool.and_true];by_cases h : a = 45
  ·subst h; rfl
  ·have h1 : (UInt8.ofNat 45 == UInt8.ofNat a) = false := by
    rw [beq_eq_false_iff_ne];exact fun h' => h ((QW (by omega) ha).1 h').symm
   rw [h1];have h2 : (a == 45) = false := by rw [beq_eq_false_iff_ne]; exact h
   rw [h2]
theorem VJ {xs : List Nat} (hx : B8 xs) : Sp Tryz.prog I 141 [cS xs, cS [45]] (lb (BK xs)) := by
 intro N w vs _ _ hv;obtain ⟨v, r, rfl, h1, v2, r2, rfl, h3, h4⟩ := hv;have h1 : [v] = [.string (AI xs)] := h1;have h3 : [v2] = [.string (AI [45])] := h3;injection h1 with h1;injection h3 with h3;obtain rfl : r2 = [] := h4;subst h1 h3;refine (Tryz.strings_HasPrefix (AI xs) (AI [45]) w).mono ?_;rintro e w' ⟨rfl, rfl⟩;rw [Cv, Cv, show [45].map UInt8.ofNat = [UInt8.ofNat 45] from rfl, Pk xs hx];exact ⟨_, rfl, (rfl : [_] = [_]), Below.refl _ _⟩
theorem DV {xs : List Nat} (hx : B8 xs) : Sp Tryz.prog I 142 [cS xs, cS [45]] (tS (AZ xs)) := by
 intro N w vs _ _ hv;obtain ⟨v, r, rfl, h1, v2, r2, rfl, h3, h4⟩ := hv;have h1 : [v] = [.string (AI xs)] := h1;have h3 : [v2] = [.string (AI [45])] := h3;injection h1 with h1;injection h3 with h3;obtain rfl : r2 = [] := h4;subst h1 h3;refine (Tryz.strings_TrimPrefix (AI xs) (AI [45]) w).mono ?_;rintro e w' ⟨rfl, rfl⟩;refine ⟨_, rfl, ?_, Below.refl _ _⟩;have e1 : Lib.trimPrefix (AI xs).data.toList (AI [45]).data.toList = (AZ xs).map UInt8.ofNat := by
  rw [Cv, Cv, show [45].map UInt8.ofNat = [UInt8.ofNat 45] from rfl];unfold Lib.trimPrefix AZ;rw [Pk xs hx];split
  ·rw [List.map_drop]; rfl
  ·rfl
 rw [e1];exact (rfl : [_] = [_])
theorem KD {xs : List Nat} (hx : B8 xs) : Sp Tryz.prog I 143 [cS xs, cS [48]] (tS (xs.dropWhile (· == 48))) := by
 intro N w vs _ _ hv;obtain ⟨v, r, rfl, h1, v2, r2, rfl, h3, h4⟩ := hv;have h1 : [v] = [.string (AI xs)] := h1;have h3 : [v2] = [.string (AI [48])] := h3;injection h1 with h1;injection h3 with h3;obtain rfl : r2 = [] := h4;subst h1 h3;refine (Tryz.strings_TrimLeft_one (AI xs) (UInt8.ofNat 48) (by decide) w).mono ?_
 rintro e w' ⟨rfl, rfl⟩;refine ⟨_, rfl, ?_, Below.refl _ _⟩;have e1 : ∀ xs : List Nat, B8 xs → Lib.trimLeftB (xs.map UInt8.ofNat) (UInt8.ofNat 48) = (xs.dropWhile (· == 48)).map UInt8.ofNat := by
  intro xs;unfold Lib.trimLeftB;induction xs with
  | nil => intro _; rfl
  | cons a l ih =>
   intro hx;have ha := hx a (by simp)
   rw [List.map_cons, List.dropWhile_cons, List.dropWhile_cons];by_cases h : a = 48
   ·subst h
    simp only [beq_self_eq_true, if_true];exact ih fun y hy => hx y (by simp [hy])
   ·have h1 : (UInt8.ofNat a == UInt8.ofNat 48) = false := by
     rw [beq_eq_false_iff_ne];exact fun h' => h ((QW ha (by omega)).1 h')
    have h2 : (a == 48) = false := by rw [beq_eq_false_iff_ne]; exact h
    rw [h1, h2];simp
 rw [Cv, e1 xs hx];exact (rfl : [_] = [_])
end
abbrev Af (x : Nat) : List It0 := [.lit (.int .u8 (x : Int))]
theorem Lc {D : List Nat} {i : Nat} (h : i < D.length) : (D.map Af)[i]? = some (Af (D.getD i 0)) := by
 rw [List.getElem?_map, List.getD_eq_getElem?_getD, List.getElem?_eq_getElem h]; rfl
theorem Bm {D : List Nat} : ∀ r ∈ D.map Af, BS r = 1 := by intro r hr; obtain ⟨x, _, rfl⟩ := List.mem_map.1 hr; rfl
section
variable {P : Program} {I : WInv}
theorem Yr (s d e : TypeId) (xs : List Nat) (hs : P.underlying s = some (.slice e) := by kernel_rfl) (he : P.underlying e = some (.int .u8) := by kernel_rfl) (hd : P.underlying d = some .string := by kernel_rfl) : BA P (.conv s d) [tit (slI 1 (xs.map Af))] (tS xs) := by
 intro N w g vs hv;obtain ⟨v, rfl, A, c, e1, h1, h2, h⟩ := GH hv;injection e1 with e1;subst e1;have hr : Rd .u8 w w.heap.size A xs.length xs := by
  refine ⟨rfl, fun h0 => ?_⟩
  obtain ⟨b, off, hA, hrow⟩ := h (by intro h3; rw [List.map_eq_nil_iff] at h3; rw [h3] at h0; simp at h0)
  have hb : b < w.heap.size := by
   obtain ⟨cs, T, fr, vs, _, q, _⟩ := hrow 0 _ (Lc h0);exact (Array.getElem?_eq_some_iff.1 q).1
  refine ⟨b, off, hA, hb, fun j x hj => ?_⟩
  have hjl := (List.getElem?_eq_some_iff.1 hj).1;obtain ⟨cs, T, fr, vs, _, q1, q2, q3⟩ := hrow j _ (Lc hjl);have hx : xs.getD j 0 = x := by rw [List.getD_eq_getElem?_getD, hj]; rfl
  rw [hx] at q3;obtain ⟨l1, l2, rfl, q4, q5⟩ := q3;have q4 : l1 = [.int .u8 (x : Int)] := q4;have q5 : l2 = [] := q5;subst q4 q5;simp only [World.cell?, q1];simp only [List.cons_append, List.nil_append, List.length_cons, List.length_nil, Nat.zero_add, Nat.mul_one] at q2;have := congrArg (fun l => l[0]?) q2
  simp only [List.getElem?_take, List.getElem?_drop] at this
  simpa using this
 rw [List.length_map] at *;exact ⟨_, w, GR hs he hd hr, Below.refl _ _, (rfl : [_] = [_])⟩
end
theorem AT (D : List Nat) : ((D.map Af).flatten.map It.b).all It.okB = true := by
 rw [List.all_eq_true];intro x hx;obtain ⟨y, hy, rfl⟩ := List.mem_map.1 hx;obtain ⟨r, hr, hy⟩ := List.mem_flatten.1 hy;obtain ⟨d, _, rfl⟩ := List.mem_map.1 hr;simp at hy;subst hy
 rfl
abbrev bI (xs : List Nat) : Item := slI 1 (xs.map Af)
theorem Nu {N : Nat → Prop} {w : World} {xs : List Nat} {l : List Value} (h : (bI xs).T N w l) : ∃ A c, l = [.slice A xs.length c] ∧ Rd .u8 w w.heap.size A xs.length xs ∧ xs.length ≤ c ∧ c ≤ 9223372036854775807 := by
 obtain ⟨A, c, e, h1, h2, h3⟩ := h;rw [List.length_map] at e h1;refine ⟨A, c, e, ⟨rfl, fun h0 => ?_⟩, h1, Nat.le_trans h2 (by simp [maxLen])⟩
 obtain ⟨b, off, hA, hrow⟩ := h3 (by intro h; rw [List.map_eq_nil_iff] at h; rw [h] at h0; simp at h0)
 have hb : b < w.heap.size := by
  obtain ⟨cs, T, fr, vs, _, q, _⟩ := hrow 0 _ (Lc h0);exact (Array.getElem?_eq_some_iff.1 q).1
 refine ⟨b, off, hA, hb, fun j x hj => ?_⟩
 have hjl := (List.getElem?_eq_some_iff.1 hj).1;obtain ⟨cs, T, fr, vs, _, q1, q2, q3⟩ := hrow j _ (Lc hjl);have hx : xs.getD j 0 = x := by rw [List.getD_eq_getElem?_getD, hj]; rfl
 rw [hx] at q3;obtain ⟨l1, l2, rfl, q4, q5⟩ := q3;have q4 : l1 = [.int .u8 (x : Int)] := q4;have q5 : l2 = [] := q5;subst q4 q5;simp only [World.cell?, q1];simp only [List.cons_append, List.nil_append, List.length_cons, List.length_nil, Nat.zero_add, Nat.mul_one] at q2;have := congrArg (fun l => l[0]?) q2
 simp only [List.getElem?_take, List.getElem?_drop] at this
 simpa using this
theorem QU {N : Nat → Prop} {e : TypeId} {w0 w : World} {v : Value} {xs : List Nat} (h : Own .u8 e w0 w v xs) : (bI xs).T (Nx N w0 w) w [v] := by
 rcases h.1.2 with ⟨rfl, hn⟩ | ⟨g, cap, cur, rfl, hg, hh, hnc, hcm, hcs, ht⟩
 ·obtain rfl : xs = [] := List.eq_nil_of_length_eq_zero hn
  exact ⟨none, 0, rfl, Nat.le_refl _, by simp [maxLen], fun hne => absurd rfl hne⟩
 ·refine ⟨some ⟨g, 0, none⟩, cap, by rw [List.length_map], by rw [List.length_map]; exact hnc, hcm, fun hne => ⟨g, 0, rfl, fun i r hi => ?_⟩⟩
  have hil : i < xs.length := by have := (List.getElem?_eq_some_iff.1 hi).1; simpa using this
  rw [Lc hil] at hi;injection hi with hi;subst hi;refine ⟨_, _, _, [.int .u8 ((xs.getD i 0 : Nat) : Int)], .inr ⟨hg, (Array.getElem?_eq_some_iff.1 hh).1⟩, hh, ?_, [_], [], rfl, rfl, rfl⟩;have h2 := congrArg (fun l => l[i]?) ht
  simp only [List.getElem?_take, DM] at h2;rw [if_pos (by omega), List.getElem?_eq_getElem hil] at h2
  have h3 := (List.getElem?_eq_some_iff.1 h2).1;rw [List.getD_eq_getElem?_getD, List.getElem?_eq_getElem hil];apply List.ext_getElem?;intro j;cases j with
  | zero => simp only [List.getElem?_take, List.getElem?_drop]; simpa using h2
  | succ j => simp; omega
abbrev bbx (xs : List Nat) : Ent := ⟨5, some (1, xs.length), Ad (xs.map Af)⟩
theorem NZ : XLe (.z) (.b (.it (bI []))) := by
 intro N w g l h;have h : l = [.slice none 0 0] := h;exact ⟨none, 0, h, Nat.le_refl _, by simp [maxLen], fun hr => absurd rfl hr⟩
section
variable {P : Program} {I : WInv}
theorem UN (t e : TypeId) (sz : Nat) (rows : List (List It0)) (m : Nat) (z : Int) (hz : z = (m : Int)) (hm : m ≤ rows.length) (ht : P.underlying t = some (.slice e)) (hs : Ca P e = some sz) : BA P (.slc t true false false) [tit (slI sz rows), li z] (tit (slI sz (rows.drop m))) := by
 intro N w g vs hv;obtain ⟨v, x, rfl, ⟨A, c, e1, hc1, hc2, h⟩, h2⟩ := Fu hv;injection e1 with e1;subst e1 hz;have h2 : [x] = [.int .i64 (m : Int)] := h2;injection h2 with h2;subst h2;refine ⟨.slice (if c = m then A else A.map (·.add (m * sz))) (rows.length - m) (c - m), w, ?_, Below.refl _ _, ⟨_, c - m, by rw [List.length_drop], by rw [List.length_drop]; omega, by omega, fun hr => ?_⟩⟩
 ·simp [OpK.run, Instr.sliceAt, Instr.slice, Instr.sliceBounds, Instr.sliceBound, asIntOf, AR ht, C3 hs, hm]
 ·have hlt : m < rows.length := by
   by_cases h0 : m < rows.length
   ·exact h0
   ·exact absurd (List.drop_eq_nil_of_le (by omega)) hr
  obtain ⟨b, off, hA, hrow⟩ := h (fun h0 => by rw [h0] at hlt; simp at hlt)
  subst hA;rw [if_neg (by omega)]
  refine ⟨b, off + m * sz, by simp [Addr.add], fun i r hi => ?_⟩
  rw [List.getElem?_drop] at hi;have := (hrow _ _ hi).step (WStep.refl _ w) (N' := Nx N w w) (fun _ h => .inl h)
  rw [show off + m * sz + i * sz = off + (m + i) * sz by rw [Nat.add_mul]; omega]
  exact this
theorem UM (t e : TypeId) (sz : Nat) (rows : List (List It0)) (m : Nat) (z : Int) (hz : z = (m : Int)) (hm : m ≤ rows.length) (ht : P.underlying t = some (.slice e)) (hs : Ca P e = some sz) : BA P (.slc t false true false) [tit (slI sz rows), li z] (tit (slI sz (rows.take m))) := by
 intro N w g vs hv;obtain ⟨v, x, rfl, ⟨A, c, e1, hc1, hc2, h⟩, h2⟩ := Fu hv;injection e1 with e1;subst e1 hz;have h2 : [x] = [.int .i64 (m : Int)] := h2;injection h2 with h2;subst h2;have hmc : m ≤ c := by omega
 refine ⟨.slice A m c, w, ?_, Below.refl _ _, ⟨A, c, by rw [List.length_take, Nat.min_eq_left hm], by rw [List.length_take]; omega, hc2, fun hr => ?_⟩⟩
 ·simp [OpK.run, Instr.sliceAt, Instr.slice, Instr.sliceBounds, Instr.sliceBound, asIntOf, AR ht, C3 hs, hmc]
  intro _;cases A with
  | none => rfl
  | some a => simp [Addr.add]
 ·obtain ⟨b, off, hA, hrow⟩ := h (fun h0 => hr (by rw [h0]; simp))
  refine ⟨b, off, hA, fun i r hi => ?_⟩
  rw [List.getElem?_take] at hi;split at hi
  ·exact (hrow i r hi).step (WStep.refl _ _) (fun _ h => .inl h)
  ·cases hi
theorem J3 (xs : List Nat) (m : Nat) (z : Int) (hz : z = (m : Int)) (hm : m ≤ xs.length) : BA Tryz.prog (.slc 31 true false false) [tit (bI xs), li z] (tit (bI (xs.drop m))) := by
 have := UN (P := Tryz.prog) 31 5 1 (xs.map Af) m z hz (by rw [List.length_map]; exact hm) (by kernel_rfl) (by kernel_rfl)
 rwa [← List.map_drop] at this
theorem Y9 (xs : List Nat) (m : Nat) (z : Int) (hz : z = (m : Int)) (hm : m ≤ xs.length) : BA Tryz.prog (.slc 31 false true false) [tit (bI xs), li z] (tit (bI (xs.take m))) := by
 have := UM (P := Tryz.prog) 31 5 1 (xs.map Af) m z hz (by rw [List.length_map]; exact hm) (by kernel_rfl) (by kernel_rfl)
 rwa [← List.map_take] at this
theorem O1 (xs : List Nat) : BA Tryz.prog (.conv 31 9) [tit (bI xs)] (tS xs) := Yr 31 9 5 xs
end
section
variable {I : WInv}
theorem H9 {N : Nat → Prop} {w w' : World} {xs : List Nat} {err : Int} {t : TypeId} {e : Ending} (h : DZ .u8 t w xs err e w') : ∃ v, e = .returned v ∧ (TV.tu [.t (bI xs), ci err]).sem (Nx N w w') w' G0 v ∧ Below w.heap.size w w' := by
 obtain ⟨v, e1, h1⟩ := h;exact ⟨_, e1, ⟨_, rfl, _, _, rfl, QU h1, _, _, rfl, rfl, rfl⟩, h1.2⟩
theorem Aac (n : Int) : Sp Tryz.prog I 88 [ci n] (.tu [.t (bI (Rw n).1), ci (Rw n).2]) := by
 intro N w vs _ _ hv;rw [J7 hv];exact (LY n w).mono fun e w' he => H9 he
theorem Aae (n : Int) : Sp Tryz.prog I 93 [ci n] (.tu [.t (bI (Ub n).1), ci (Ub n).2]) := by
 intro N w vs _ _ hv;rw [J7 hv];exact (M1 n w).mono fun e w' he => H9 he
theorem Aad {xs : List Nat} (hx : B8 xs) (hl : xs.length ≤ 1000000) : Sp Tryz.prog I 92 [cS xs] (.tu [.t (bI (Ua (AI xs)).1), ci (Ua (AI xs)).2]) := by
 intro N w vs _ _ hv;rw [J7 hv];exact (LZ (AI xs) w (by rw [BC]; omega)).mono fun e w' he => H9 he
theorem Aaj {xs : List Nat} (hx : B8 xs) : Sp Tryz.prog I 66 [.t (bI xs)] (.tu [ci ((Bk xs).1 : Nat), ci ((Bk xs).2.1 : Nat), ci ((Bk xs).2.2 : Nat)]) := by
 intro N w vs _ hN hv;obtain ⟨v, r, rfl, h, h'⟩ := hv;have h' : r = [] := h';subst h';obtain ⟨A, c, e1, h1, h2, h3⟩ := Nu h;injection e1 with e1;subst e1;refine (Dm w h1 hx (by omega)).mono fun e w' ⟨he, hw⟩ => ?_
 subst he hw;exact ⟨_, rfl, ⟨_, rfl, _, _, rfl, rfl, _, _, rfl, rfl, _, _, rfl, rfl, rfl⟩, Below.refl _ _⟩
theorem Aal {xs : List Nat} (hx : B8 xs) : Sp Tryz.prog I 106 [.t (bI xs)] (.tu [ci (ET xs).1, ci ((ET xs).2.1 : Nat), ci ((ET xs).2.2 : Nat)]) := by
 intro N w vs _ hN hv;obtain ⟨v, r, rfl, h, h'⟩ := hv;have h' : r = [] := h';subst h';obtain ⟨A, c, e1, h1, h2, h3⟩ := Nu h;injection e1 with e1;subst e1;refine (M2 w h1 hx (by omega)).mono fun e w' ⟨he, hw⟩ => ?_
 subst he hw;exact ⟨_, rfl, ⟨_, rfl, _, _, rfl, rfl, _, _, rfl, rfl, _, _, rfl, rfl, rfl⟩, Below.refl _ _⟩
theorem Aak {xs : List Nat} (hx : B8 xs) : Sp Tryz.prog I 105 [.t (bI xs)] (.tu [cS (CJ xs).1, ci ((CJ xs).2.1 : Nat), ci ((CJ xs).2.2 : Nat)]) := by
 intro N w vs _ hN hv;obtain ⟨v, r, rfl, h, h'⟩ := hv;have h' : r = [] := h';subst h';obtain ⟨A, c, e1, h1, h2, h3⟩ := Nu h;injection e1 with e1;subst e1;refine (Me w h1 hx h2 h3).mono fun e w' ⟨he, hw⟩ => ?_
 subst he hw;exact ⟨_, rfl, ⟨_, rfl, _, _, rfl, rfl, _, _, rfl, rfl, _, _, rfl, rfl, rfl⟩, Below.refl _ _⟩
end
theorem KJ (c : Nat) (l : List Nat) : nd (c :: l) = (c - 48) * 10 ^ l.length + nd l := by
 have h := JP [c] l;rw [show [c] ++ l = c :: l from rfl, show nd [c] = 0 * 10 + (c - 48) from rfl, Nat.zero_mul, Nat.zero_add] at h;exact h
theorem Vw {l : List Nat} (h : GM l) (h1 : l ≠ [48]) : 0 < nd l := by
 obtain ⟨h2, h3, h4⟩ := h;cases l with
 | nil => exact absurd rfl h2
 | cons c r =>
  have hc := h3 c (by simp)
  by_cases h0 : c = 48
  ·subst h0
   exfalso;cases r with
   | nil => exact h1 rfl
   | cons a r => exact h4 ⟨by simp, by simp⟩
  ·rw [KJ]
   have : 0 < (c - 48) * 10 ^ r.length := Nat.mul_pos (by omega) (Nat.pow_pos (by omega))
   omega
theorem ZI (k : Nat) : nd (List.replicate k 48) = 0 := by
 induction k with
 | zero => rfl
 | succ k ih => rw [List.replicate_succ, KJ, ih]; simp
theorem ZH (k : Nat) : nd (49 :: List.replicate k 48) = 10 ^ k := by
 rw [KJ, ZI, List.length_replicate]; simp
theorem Pw (l : List Nat) : nd (l.dropWhile (· == 48)) = nd l := by
 induction l with
 | nil => rfl
 | cons c r ih =>
  rw [List.dropWhile_cons];by_cases h : c = 48
  ·subst h
   simp only [beq_self_eq_true, if_true];rw [ih, KJ]; simp
  ·have : (c == 48) = false := by rw [beq_eq_false_iff_ne]; exact h
   rw [this]; rfl
theorem okD.rep (k : Nat) : okD (List.replicate k 48) := fun c hc => by have := List.eq_of_mem_replicate hc; omega
theorem okD.cons {c : Nat} {l : List Nat} (h : 48 ≤ c ∧ c ≤ 57) (hl : okD l) : okD (c :: l) := fun x hx => by
 rcases List.mem_cons.1 hx with h1 | h1
 ·rw [h1]; exact h
 ·exact hl x h1
theorem okD.app {a b : List Nat} (h : okD a) (hl : okD b) : okD (a ++ b) := fun x hx => (List.mem_append.1 hx).elim (h x) (hl x)
theorem okD.b8 {l : List Nat} (h : okD l) : B8 l := fun x hx => by have := h x hx; omega
theorem Qf (k : Nat) : GM (49 :: List.replicate k 48) := ⟨by simp, okD.cons (by omega) (okD.rep k), by simp⟩
theorem R1 {l : List Nat} (h : okD l) (h1 : l.dropWhile (· == 48) ≠ []) : GM (l.dropWhile (· == 48)) := by
 refine ⟨h1, fun c hc => h c ((List.dropWhile_sublist _).subset hc), fun g => ?_⟩
 have hd := List.head_dropWhile_not (· == 48) h1;obtain ⟨g1, _⟩ := g;generalize l.dropWhile (· == 48) = m at *;cases m with
 | nil => exact h1 rfl
 | cons a m =>
  simp at g1 hd;omega
theorem Ws {l : List Nat} (h : GM l) : BK l = false ∧ AZ l = l := by
 have h1 : BK l = false := by
  unfold BK;rw [beq_eq_false_iff_ne];have := h.2.1.getD (k := 0) (List.length_pos_iff.2 h.1);omega
 exact ⟨h1, by unfold AZ; rw [h1]; rfl⟩
theorem G8 {l : List Nat} (h : GM l) (hl : l.length ≤ 400) : PA l (nd l : Nat) 0 := by
 obtain ⟨h1, h2⟩ := Ws h;refine .inr (.inl ⟨hl, ?_, rfl, ?_⟩)
 ·rw [h1, h2]; exact ⟨h, fun g => by cases g.1⟩
 ·rw [h1, h2]; rfl
theorem Jf {l : List Nat} (h : CD (BK l) (AZ l)) (hl : l.length ≤ 400) : PA l (sgn (BK l) (nd (AZ l))) 0 := .inr (.inl ⟨hl, h, rfl, rfl⟩)
theorem NS {l : List Nat} (h : ¬ CD (BK l) (AZ l)) (hl : l.length ≤ 400) : PA l 0 1 := .inr (.inr ⟨hl, h, rfl, rfl⟩)
theorem PN {l : List Nat} (h : CD (BK l) (AZ l)) (hd : ¬ GM l) : sgn (BK l) (nd (AZ l)) < 0 := by
 cases hn : BK l with
 | false =>
  exfalso;rw [hn] at h;have : AZ l = l := by unfold AZ; rw [hn]; rfl
  rw [this] at h;exact hd h.1
 | true =>
  rw [hn] at h;have := Vw h.1 (fun e => h.2 ⟨rfl, e⟩)
  rw [YQ];omega
theorem Vk : (10 : Nat) ^ 800 < 4294967296 ^ 84 := by decide +kernel
theorem Dk {l : List Nat} (h : okD l) (hl : l.length ≤ 800) : Lim 84 (nd l : Nat) := by
 unfold Lim;have h1 := Pv _ l rfl h;rw [Int.natAbs_natCast];exact Nat.lt_of_lt_of_le h1 (Nat.le_trans (Nat.pow_le_pow_right (by omega) hl) (Nat.le_of_lt Vk))
theorem RH {k : Nat} (hk : k ≤ 800) : Lim 84 ((10 ^ k : Nat) : Int) := by
 unfold Lim;rw [Int.natAbs_natCast];exact Nat.lt_of_le_of_lt (Nat.pow_le_pow_right (by omega) hk) Vk
theorem Zp (k : Nat) : ((10 ^ k : Nat) : Int) ≠ 0 := by
 have : 0 < 10 ^ k := Nat.pow_pos (by omega)
 omega
theorem Lim.sgn {k : Nat} {n : Nat} (h : Lim k (n : Int)) (s : Bool) : Lim k (sgn s n) := by
 unfold Lim at *;rw [Bw]
 rwa [Int.natAbs_natCast] at h
theorem Jq (z : Int) : B8 (CG z) := by
 intro c hc;unfold CG Df at hc;rcases List.mem_append.1 hc with h | h
 ·split at h <;> simp at h; omega
 ·exact JX _ c h
theorem PV (n : Nat) : CG (n : Int) = dec n := by
 unfold CG Df;rw [Int.natAbs_natCast, if_neg (fun h => by have := of_decide_eq_true h.1; omega)]
 rfl
theorem Hl (z : Int) : ∀ c ∈ CG z, c = 45 ∨ (48 ≤ c ∧ c ≤ 57) := by
 intro c hc;unfold CG Df at hc;rcases List.mem_append.1 hc with h | h
 ·split at h <;> simp at h; exact .inl h
 ·exact .inr (Fn _ c h)
theorem VM (d : Nat) : CG (d : Int) = [49] ↔ d = 1 := by
 rw [PV];constructor
 ·intro h
  have := LI d;rw [h] at this;exact this.symm
 ·intro h; rw [h, Cp (by omega)]
theorem Jp {z : Int} {k : Nat} (h : Lim k z) : (CG z).length ≤ 18 * k + 2 := by
 unfold CG;by_cases h0 : z.natAbs = 0
 ·rw [h0, Fm]; simp
 ·have := Nm z.natAbs h0
  have h2 := Bp h;unfold Df;rw [List.length_append];split <;> simp <;> omega
theorem Vp (z : Int) (h : (CG z).length ≤ 400) : PA (CG z) z 0 := by
 have := YM (decide (z < 0)) z.natAbs h;have e : sgn (decide (z < 0)) z.natAbs = z := by
  unfold sgn;by_cases h0 : z < 0
  ·rw [decide_eq_true h0]; simp; omega
  ·rw [decide_eq_false h0]; simp; omega
 rwa [e] at this
theorem Qg (n : Nat) : GM (dec n) := (Qi false n (.inr rfl)).1
def BZ (q : Rat) : List Nat := if q.den = 1 then CG q.num else CG q.num ++ ([47] ++ CG (q.den : Int))
theorem KN (q : Rat) : B8 (BZ q) := by
 unfold BZ;split
 ·exact Jq _
 ·exact (Jq _).app (B8.app (fun x hx => by simp at hx; omega) (Jq _))
theorem Rs (q : Rat) (h : q.den ≠ 1) : Ds 47 (BZ q) = some (CG q.num).length := by
 unfold BZ;rw [if_neg h];exact PL fun x hx => by have := Hl _ x hx; omega
theorem TW (q : Rat) (h : q.den = 1) : Ds 47 (BZ q) = none ∧ Ds 46 (BZ q) = none := by
 unfold BZ;rw [if_pos h];exact ⟨Om fun x hx => by have := Hl _ x hx; omega, Om fun x hx => by have := Hl _ x hx; omega⟩
theorem Sp.inv {P : Program} {I I' : WInv} {f : FuncId} {args : List CT} {res : TV} (h : Sp P I f args res) (hi : ∀ N w, I'.T N w → I.T N w) : Sp P I' f args res := fun N w vs hI hl hv => h N w vs (hi N w hI) hl hv
def At : WInv := ⟨fun N w => Dr.T N w ∧ (∃ m : Int, w.cell? ⟨0, 0, none⟩ = some (.int .i64 m)) ∧ N 0, fun {N N' w w'} hw hN ⟨h1, ⟨m, h2⟩, h3⟩ => ⟨Dr.step hw hN h1, ⟨m, by
 have hlt : 0 < w.heap.size := by
  rcases Nat.lt_or_ge 0 w.heap.size with h' | h'
  ·exact h'
  ·unfold World.cell? at h2
   rw [Array.getElem?_eq_none h'] at h2;simp at h2
 rcases hw.keep _ hlt with e | e
 ·unfold World.cell? at h2 ⊢
  rw [e]; exact h2
 ·exact absurd h3 e.1⟩, hN _ h3⟩⟩
theorem QD : ∀ N w, At.T N w → Dr.T N w := fun N w h => h.1
theorem Zg {c : Nat} (hc : c < 256) {xs : List Nat} (hx : B8 xs) : Lib.cut (AI xs).data.toList (AI [c]).data.toList = match Ds c xs with
  | some i => ((xs.take i).map UInt8.ofNat, (xs.drop (i + 1)).map UInt8.ofNat, true)
  | none => (xs.map UInt8.ofNat, [], false) := by
 rw [Cv, Cv, show [c].map UInt8.ofNat = [UInt8.ofNat c] from rfl];unfold Lib.cut;rw [LQ hc hx];cases Ds c xs with
 | none => simp
 | some i =>
  have : (0 : Int) ≤ (i : Int) := by omega
  simp [this, List.map_take, List.map_drop]
theorem Mh {c i : Nat} (hc : c < 256) {xs : List Nat} (hx : B8 xs) (hl : xs.length ≤ 1000000) (hi : Ds c xs = some i) : Sp Tryz.prog At 100 [cS xs, cS [c]] (.tu [cS (xs.take i), cS (xs.drop (i + 1)), cb true]) := by
 intro N w vs hI _ hv;obtain ⟨v, r, rfl, h1, v2, r2, rfl, h3, h4⟩ := hv;have h1 : [v] = [.string (AI xs)] := h1;have h3 : [v2] = [.string (AI [c])] := h3;injection h1 with h1;injection h3 with h3;obtain rfl : r2 = [] := h4;subst h1 h3;obtain ⟨m, hm⟩ := hI.2.1;refine (Tryz.strings_Cut (AI xs) (AI [c]) m w (by rw [BC]; omega) hm).mono ?_
 rintro e w' ⟨rfl, n, rfl⟩;rw [Zg hc hx, hi];exact ⟨_, rfl, ⟨_, rfl, _, _, rfl, (rfl : [_] = [_]), _, _, rfl, (rfl : [_] = [_]), _, _, rfl, (rfl : [_] = [_]), rfl⟩, Kx w n⟩
theorem Gp {c : Nat} (hc : c < 256) {xs : List Nat} (hx : B8 xs) (hl : xs.length ≤ 1000000) (hi : Ds c xs = none) : Sp Tryz.prog At 100 [cS xs, cS [c]] (.tu [cS xs, cS [], cb false]) := by
 intro N w vs hI _ hv;obtain ⟨v, r, rfl, h1, v2, r2, rfl, h3, h4⟩ := hv;have h1 : [v] = [.string (AI xs)] := h1;have h3 : [v2] = [.string (AI [c])] := h3;injection h1 with h1;injection h3 with h3;obtain rfl : r2 = [] := h4;subst h1 h3;obtain ⟨m, hm⟩ := hI.2.1;refine (Tryz.strings_Cut (AI xs) (AI [c]) m w (by rw [BC]; omega) hm).mono ?_
 rintro e w' ⟨rfl, n, rfl⟩;rw [Zg hc hx, hi];exact ⟨_, rfl, ⟨_, rfl, _, _, rfl, (rfl : [_] = [_]), _, _, rfl, (rfl : [_] = [_]), _, _, rfl, (rfl : [_] = [_]), rfl⟩, Kx w n⟩
section
variable {I : WInv} {n d : Int} {k0 : Nat} {q1 q2 : IntP}
theorem b49 : B8 [49] := by intro x hx; simp at hx; omega
theorem Z9 (h1 : Fk q1 q2 n d k0) (hk0 : k0 ≤ 1000) : Sp Tryz.prog Dr 37 [fr q1 q2] (tS (BZ (Rat.divInt n d))) := by
 have pa := Pp (I := Dr) h1.a h1.b h1.big.1 h1.big.2;have hd := NQ d;have re := Eb (I := Dr) (NW (pn n d)) (NW (pd d)) ((Vl h1.ln d).mono (by omega)) ((ZB h1.ld h1.k0).mono (by omega)) (by omega)
 rw [YT] at re;have lq := h1.lq;generalize Rat.divInt n d = q at *;have fn := Za (Bh lq.n (by omega))
 have fd := Za (Bh lq.d (by omega))
 have ln := Jp lq.n;have ld := Jp lq.d;have bn := Jq q.num;have bd := Jq (q.den : Int);have h1' := VM q.den;unfold BZ;by_cases h : q.den = 1
 ·rw [if_pos h]
  exact sr 28 [po pa, po re, po fn, po fd, pk (JC 9 (CG (q.den : Int)) [49] false (decide_eq_true (h1'.2 h)) bd b49)]
 ·rw [if_neg h]
  exact sr 28 [po pa, po re, po fn, po fd, pk (JC 9 (CG (q.den : Int)) [49] true (decide_eq_false (fun e => h (h1'.1 e))) bd b49), pk (FT 9 [47] (CG (q.den : Int)) (by simp; omega)), pk (FT 9 (CG q.num) ([47] ++ CG (q.den : Int)) (by simp; omega))]
end
def DK (n : Int) : Bool := decide (0 ≤ n) && decide (n ≤ 1099511627776)
def Bg (x : Ch) : Bool := DK x.node && DK x.fst && DK x.nxt && BL x.cost && (if x.kind = 1 then decide (x.fst = 0) && decide (x.nxt = 0) && decide (x.cost = 0) else if x.kind = 2 then decide (x.q.num.sign = 0) && decide (x.cost = 0) else if x.kind = 3 then decide (x.q.num.sign = 0) && decide (x.fst = 0) && decide (x.nxt = 0) && decide (x.node = 0) else false)
def Nb (x : Ch) : List Nat := if x.kind = 1 then Aa (BZ x.q).length ++ BZ x.q else if x.kind = 2 then Aa x.fst.toNat ++ Aa x.nxt.toNat else Aa (zig x.cost)
def Bl (x : Ch) : List Nat × Int := if Bg x = false then ([], 5) else if x.kind = 1 ∧ 400 < (BZ x.q).length then ([], 10) else (Aa x.kind.toNat ++ Aa x.node.toNat ++ Nb x, 0)
abbrev chK (c : Bool) (k : Nat) (x : Ch) : CT := .ag [.i x.kind, .i x.node, .b (.it (fF c k x.q)), .i x.fst, .i x.nxt, .i x.cost]
abbrev Aa5 : Ent := ⟨67, none, [.z, .i 0]⟩
abbrev wbx (k : Nat) : Ent := ⟨67, none, [.sl k, .i 0]⟩
theorem Yf {n : Nat} (h : n ≤ 4611686018427387904) : Rw (n : Int) = (Aa n, 0) := by unfold Rw; rw [if_pos ⟨by omega, by omega⟩]; rfl
theorem NX {n : Int} (h : DK n = true) : 0 ≤ n ∧ n ≤ 1099511627776 := by unfold DK at h; simpa using h
theorem Do {n : Int} (h : BL n = true) : -288230376151711744 ≤ n ∧ n ≤ 288230376151711744 := by unfold BL at h; simpa using h
section
variable {I : WInv} {c : Bool} {k : Nat}
theorem Sz (n : Nat) (h : n ≤ 4611686018427387904) : Sp Tryz.prog I 88 [ci (n : Int)] (.tu [.t (bI (Aa n)), ci 0]) := by
 have := Aac (I := I) (n : Int)
 rwa [Yf h] at this
theorem Yg (z : Int) (h : BL z = true) : Sp Tryz.prog I 93 [ci z] (.tu [.t (bI (Aa (zig z))), ci 0]) := by
 have := Aae (I := I) z;have hc := Do h;unfold Ub at this
 rwa [if_pos ⟨by omega, by omega⟩] at this
theorem Ye {xs : List Nat} (hx : B8 xs) (h : xs.length ≤ 400) : Sp Tryz.prog I 92 [cS xs] (.tu [.t (bI (Aa xs.length ++ xs)), ci 0]) := by
 have := Aad (I := I) hx (by omega)
 unfold Ua at this
 rwa [BC, if_pos (by omega), hx.bo] at this
theorem YG (xs : List Nat) (hl : xs.length ≤ 1000000) : SpM Tryz.prog I 87 [(0, some Aa5)] [.one (.ptr 0 0), .t (bI xs), ci 0] [(2, some (bbx xs)), (0, some (wbx 2))] (.tu []) :=
 sm 24 [pa, ⟨.src 1 (bI xs) ((xs).map Af).length ((xs).map Af).flatten, Ci Bm (AT _)⟩, ⟨.ap 0 (((xs).map Af).length) 1, ⟨by simp; omega, by simp [maxLen]; omega⟩⟩, pm ((show Leads I _ ⟨[], [(19, some ⟨5, some (1, ((xs).map Af).length), ((xs).map Af).flatten.map It.b⟩), (0, some ⟨67, none, [.sl 19, .i 0]⟩)], 23⟩ ⟨[], [(2, some ⟨5, some (1, (xs).length), Ad ((xs).map Af)⟩), (0, some ⟨67, none, [.sl 2, .i 0]⟩)], 23⟩ from AK [(2, 19)] trivial ⟨rfl, rfl, (congrArg (fun m => some (1, m)) (show ((xs).map Af).length = (xs).length by simp)), ILe.eq (show ((xs).map Af).flatten.map It.b = Ad ((xs).map Af) from by simp [Ad]), rfl, rfl, rfl, ILe.refl, trivial⟩))]
theorem O6 (ys xs : List Nat) (hl : xs.length ≤ 1000000) (hy : ys.length ≤ 1000000) : SpM Tryz.prog I 87 [(0, some (wbx 1)), (1, some (bbx ys))] [.one (.ptr 0 0), .t (bI xs), ci 0] [(2, some (bbx (ys ++ xs))), (0, some (wbx 2))] (.tu []) :=
 sm 24 [pa, ⟨.src 1 (bI xs) ((xs).map Af).length ((xs).map Af).flatten, Ci Bm (AT _)⟩, ⟨.ap ((ys).length) (((xs).map Af).length) 1, ⟨by simp; omega, by simp [maxLen]; omega⟩⟩, pm ((show Leads I _ ⟨[], [(19, some ⟨5, some (1, (ys).length + ((xs).map Af).length), (Ad ((ys).map Af)) ++ (((xs).map Af).flatten.map It.b)⟩), (0, some ⟨67, none, [.sl 19, .i 0]⟩)], 23⟩ ⟨[], [(2, some ⟨5, some (1, (ys ++ xs).length), Ad ((ys ++ xs).map Af)⟩), (0, some ⟨67, none, [.sl 2, .i 0]⟩)], 23⟩ from AK [(2, 19)] trivial ⟨rfl, rfl, (congrArg (fun m => some (1, m)) (show (ys).length + ((xs).map Af).length = (ys ++ xs).length by simp)), ILe.eq (show (Ad ((ys).map Af)) ++ (((xs).map Af).flatten.map It.b) = Ad ((ys ++ xs).map Af) from by simp [Ad]), rfl, rfl, rfl, ILe.refl, trivial⟩ (hnp := ⟨fun _ => BI (Au _) (Au _), fun h => absurd h Bool.false_ne_true, trivial⟩)))]
theorem Gy (n : Nat) (h : n ≤ 4611686018427387904) : SpM Tryz.prog I 36 [(0, some Aa5)] [.one (.ptr 0 0), ci (n : Int)] [(2, some (bbx (Aa n))), (0, some (wbx 2))] (.tu []) := by
 have h9 := AG h;exact sm 10 [po (Sz n h), pom [0] (YG (Aa n) (by omega)), pm ((show Leads I _ ⟨[], [(8, some ⟨5, some (1, (Aa n).length), Ad ((Aa n).map Af)⟩), (0, some ⟨67, none, [.sl 8, .i 0]⟩)], 9⟩ ⟨[], [(2, some ⟨5, some (1, (Aa n).length), Ad ((Aa n).map Af)⟩), (0, some ⟨67, none, [.sl 2, .i 0]⟩)], 9⟩ from AK [(2, 8)] trivial ⟨rfl, rfl, (congrArg (fun m => some (1, m)) (show (Aa n).length = (Aa n).length by simp)), ILe.eq (show Ad ((Aa n).map Af) = Ad ((Aa n).map Af) from by simp [Ad]), rfl, rfl, rfl, ILe.refl, trivial⟩))]
theorem Ea (ys : List Nat) (hy : ys.length ≤ 1000000) (n : Nat) (h : n ≤ 4611686018427387904) : SpM Tryz.prog I 36 [(0, some (wbx 1)), (1, some (bbx ys))] [.one (.ptr 0 0), ci (n : Int)] [(2, some (bbx (ys ++ Aa n))), (0, some (wbx 2))] (.tu []) := by
 have h9 := AG h;exact sm 10 [po (Sz n h), pom [0, 1] (O6 (ys) (Aa n) (by omega) (by omega)), pm ((show Leads I _ ⟨[], [(8, some ⟨5, some (1, (ys ++ (Aa n)).length), Ad ((ys ++ (Aa n)).map Af)⟩), (0, some ⟨67, none, [.sl 8, .i 0]⟩)], 9⟩ ⟨[], [(2, some ⟨5, some (1, (ys ++ (Aa n)).length), Ad ((ys ++ (Aa n)).map Af)⟩), (0, some ⟨67, none, [.sl 2, .i 0]⟩)], 9⟩ from AK [(2, 8)] trivial ⟨rfl, rfl, (congrArg (fun m => some (1, m)) (show (ys ++ (Aa n)).length = (ys ++ (Aa n)).length by simp)), ILe.eq (show Ad ((ys ++ (Aa n)).map Af) = Ad ((ys ++ (Aa n)).map Af) from by simp [Ad]), rfl, rfl, rfl, ILe.refl, trivial⟩))]
theorem U5 (ys : List Nat) (hy : ys.length ≤ 1000000) (z : Int) (h : BL z = true) : SpM Tryz.prog I 39 [(0, some (wbx 1)), (1, some (bbx ys))] [.one (.ptr 0 0), ci z] [(2, some (bbx (ys ++ Aa (zig z)))), (0, some (wbx 2))] (.tu []) := by
 have h9 := AG (KU z (by have := Do h; omega) (by have := Do h; omega))
 exact sm 10 [po (Yg z h), pom [0, 1] (O6 (ys) (Aa (zig z)) (by omega) (by omega)), pm ((show Leads I _ ⟨[], [(8, some ⟨5, some (1, (ys ++ (Aa (zig z))).length), Ad ((ys ++ (Aa (zig z))).map Af)⟩), (0, some ⟨67, none, [.sl 8, .i 0]⟩)], 9⟩ ⟨[], [(2, some ⟨5, some (1, (ys ++ (Aa (zig z))).length), Ad ((ys ++ (Aa (zig z))).map Af)⟩), (0, some ⟨67, none, [.sl 2, .i 0]⟩)], 9⟩ from AK [(2, 8)] trivial ⟨rfl, rfl, (congrArg (fun m => some (1, m)) (show (ys ++ (Aa (zig z))).length = (ys ++ (Aa (zig z))).length by simp)), ILe.eq (show Ad ((ys ++ (Aa (zig z))).map Af) = Ad ((ys ++ (Aa (zig z))).map Af) from by simp [Ad]), rfl, rfl, rfl, ILe.refl, trivial⟩))]
theorem SN (ys : List Nat) (hy : ys.length ≤ 1000000) {xs : List Nat} (hx : B8 xs) (h : xs.length ≤ 400) : SpM Tryz.prog I 38 [(0, some (wbx 1)), (1, some (bbx ys))] [.one (.ptr 0 0), cS xs] [(2, some (bbx (ys ++ (Aa xs.length ++ xs)))), (0, some (wbx 2))] (.tu []) := by
 have h9 := AG (n := xs.length) (by omega)
 have hl : (Aa xs.length ++ xs).length ≤ 1000 := by rw [List.length_append]; omega
 exact sm 10 [po (Ye hx h), pom [0, 1] (O6 (ys) (Aa xs.length ++ xs) (by omega) (by omega)), pm ((show Leads I _ ⟨[], [(8, some ⟨5, some (1, (ys ++ (Aa xs.length ++ xs)).length), Ad ((ys ++ (Aa xs.length ++ xs)).map Af)⟩), (0, some ⟨67, none, [.sl 8, .i 0]⟩)], 9⟩ ⟨[], [(2, some ⟨5, some (1, (ys ++ (Aa xs.length ++ xs)).length), Ad ((ys ++ (Aa xs.length ++ xs)).map Af)⟩), (0, some ⟨67, none, [.sl 2, .i 0]⟩)], 9⟩ from AK [(2, 8)] trivial ⟨rfl, rfl, (congrArg (fun m => some (1, m)) (show (ys ++ (Aa xs.length ++ xs)).length = (ys ++ (Aa xs.length ++ xs)).length by simp)), ILe.eq (show Ad ((ys ++ (Aa xs.length ++ xs)).map Af) = Ad ((ys ++ (Aa xs.length ++ xs)).map Af) from by simp [Ad]), rfl, rfl, rfl, ILe.refl, trivial⟩))]
theorem AC (n : Int) (b : Bool) (h : DK n = b) : Sp Tryz.prog I 85 [ci n] (lb b) := by
 unfold DK at h;by_cases h1 : 0 ≤ n
 ·by_cases h2 : n ≤ 1099511627776
  ·rw [decide_eq_true h1, decide_eq_true h2] at h; subst h
   exact sr 9 [pk (Br 3 n 0), pk (Hs 3 n 1099511627776)]
  ·rw [decide_eq_true h1, decide_eq_false h2] at h; subst h
   exact sr 9 [pk (Br 3 n 0), pk (Ke 3 n 1099511627776)]
 ·rw [decide_eq_false h1] at h; subst h
  exact sr 9 [pk (Ck 3 n 0)]
set_option maxRecDepth 100000 in
theorem AaX (x : Ch) (hk : k ≤ 262144) : Sp Tryz.prog I 35 [chK c k x] (lb (Bg x)) := by
 cases h1 : DK x.node
 ·rw [show Bg x = false by unfold Bg; simp [h1] <;> decide]
  exact sr 76 [po (AC x.node false h1), pa]
 ·cases h2 : DK x.fst
  ·rw [show Bg x = false by unfold Bg; simp [h1, h2] <;> decide]
   exact sr 76 [po (AC x.node true h1), pa, po (AC x.fst false h2), pa]
  ·cases h3 : DK x.nxt
   ·rw [show Bg x = false by unfold Bg; simp [h1, h2, h3] <;> decide]
    exact sr 76 [po (AC x.node true h1), pa, po (AC x.fst true h2), pa, po (AC x.nxt false h3), pa]
   ·cases h4 : BL x.cost
    ·have h5 := h4
     unfold BL at h5;simp at h5;by_cases h6 : x.cost < -288230376151711744
     ·rw [show Bg x = false by unfold Bg; simp [h1, h2, h3, h4] <;> decide]
      exact sr 76 [po (AC x.node true h1), pa, po (AC x.fst true h2), pa, po (AC x.nxt true h3), pa, pk (AA 3 x.cost (-288230376151711744))]
     ·rw [show Bg x = false by unfold Bg; simp [h1, h2, h3, h4] <;> decide]
      exact sr 76 [po (AC x.node true h1), pa, po (AC x.fst true h2), pa, po (AC x.nxt true h3), pa, pk (An 3 x.cost (-288230376151711744)), pk (Dp 3 x.cost 288230376151711744)]
    ·have hcc := Do h4
     by_cases hq : x.q.num.sign = 0
     ·by_cases hf : x.fst = 0
      ·by_cases hn : x.nxt = 0
       ·by_cases k1 : x.kind = 1
        ·by_cases hz : x.cost = 0
         ·rw [show Bg x = true by unfold Bg; simp [h1, h2, h3, h4, hq, hf, hn, k1, hz] <;> decide]
          exact sr 76 [po (AC x.node true h1), pa, po (AC x.fst true h2), pa, po (AC x.nxt true h3), pa, pk (An 3 x.cost (-288230376151711744)), pk (AD 3 x.cost 288230376151711744), po (Cb (p := x.q) (c := c) (k := k) x.q.num.sign rfl hk), pk (As 3 x.q.num.sign 0), pk (As 3 x.fst 0), pk (As 3 x.nxt 0), pk (Am 3 x.kind 1), pa, pk (Am 3 x.cost 0)]
         ·rw [show Bg x = false by unfold Bg; simp [h1, h2, h3, h4, hq, hf, hn, k1, hz] <;> decide]
          exact sr 76 [po (AC x.node true h1), pa, po (AC x.fst true h2), pa, po (AC x.nxt true h3), pa, pk (An 3 x.cost (-288230376151711744)), pk (AD 3 x.cost 288230376151711744), po (Cb (p := x.q) (c := c) (k := k) x.q.num.sign rfl hk), pk (As 3 x.q.num.sign 0), pk (As 3 x.fst 0), pk (As 3 x.nxt 0), pk (Am 3 x.kind 1), pa, pk (Ae 3 x.cost 0)]
        ·by_cases k2 : x.kind = 2
         ·by_cases hz : x.cost = 0
          ·rw [show Bg x = true by unfold Bg; simp [h1, h2, h3, h4, hq, hf, hn, k1, k2, hz] <;> decide]
           exact sr 76 [po (AC x.node true h1), pa, po (AC x.fst true h2), pa, po (AC x.nxt true h3), pa, pk (An 3 x.cost (-288230376151711744)), pk (AD 3 x.cost 288230376151711744), po (Cb (p := x.q) (c := c) (k := k) x.q.num.sign rfl hk), pk (As 3 x.q.num.sign 0), pk (As 3 x.fst 0), pk (As 3 x.nxt 0), pk (Ae 3 x.kind 1), pk (Am 3 x.kind 2), pa, pk (Am 3 x.cost 0)]
          ·rw [show Bg x = false by unfold Bg; simp [h1, h2, h3, h4, hq, hf, hn, k1, k2, hz] <;> decide]
           exact sr 76 [po (AC x.node true h1), pa, po (AC x.fst true h2), pa, po (AC x.nxt true h3), pa, pk (An 3 x.cost (-288230376151711744)), pk (AD 3 x.cost 288230376151711744), po (Cb (p := x.q) (c := c) (k := k) x.q.num.sign rfl hk), pk (As 3 x.q.num.sign 0), pk (As 3 x.fst 0), pk (As 3 x.nxt 0), pk (Ae 3 x.kind 1), pk (Am 3 x.kind 2), pa, pk (Ae 3 x.cost 0)]
         ·by_cases k3 : x.kind = 3
          ·by_cases hz : x.node = 0
           ·rw [show Bg x = true by unfold Bg; simp [h1, h2, h3, h4, hq, hf, hn, k1, k2, k3, hz] <;> decide]
            exact sr 76 [po (AC x.node true h1), pa, po (AC x.fst true h2), pa, po (AC x.nxt true h3), pa, pk (An 3 x.cost (-288230376151711744)), pk (AD 3 x.cost 288230376151711744), po (Cb (p := x.q) (c := c) (k := k) x.q.num.sign rfl hk), pk (As 3 x.q.num.sign 0), pk (As 3 x.fst 0), pk (As 3 x.nxt 0), pk (Ae 3 x.kind 1), pk (Ae 3 x.kind 2), pk (Am 3 x.kind 3), pa, pa, pk (Am 3 x.node 0)]
           ·rw [show Bg x = false by unfold Bg; simp [h1, h2, h3, h4, hq, hf, hn, k1, k2, k3, hz] <;> decide]
            exact sr 76 [po (AC x.node true h1), pa, po (AC x.fst true h2), pa, po (AC x.nxt true h3), pa, pk (An 3 x.cost (-288230376151711744)), pk (AD 3 x.cost 288230376151711744), po (Cb (p := x.q) (c := c) (k := k) x.q.num.sign rfl hk), pk (As 3 x.q.num.sign 0), pk (As 3 x.fst 0), pk (As 3 x.nxt 0), pk (Ae 3 x.kind 1), pk (Ae 3 x.kind 2), pk (Am 3 x.kind 3), pa, pa, pk (Ae 3 x.node 0)]
          ·rw [show Bg x = false by unfold Bg; simp [h1, h2, h3, h4, hq, hf, hn, k1, k2, k3] <;> decide]
           exact sr 76 [po (AC x.node true h1), pa, po (AC x.fst true h2), pa, po (AC x.nxt true h3), pa, pk (An 3 x.cost (-288230376151711744)), pk (AD 3 x.cost 288230376151711744), po (Cb (p := x.q) (c := c) (k := k) x.q.num.sign rfl hk), pk (As 3 x.q.num.sign 0), pk (As 3 x.fst 0), pk (As 3 x.nxt 0), pk (Ae 3 x.kind 1), pk (Ae 3 x.kind 2), pk (Ae 3 x.kind 3)]
       ·by_cases k1 : x.kind = 1
        ·rw [show Bg x = false by unfold Bg; simp [h1, h2, h3, h4, hq, hf, hn, k1] <;> decide]
         exact sr 76 [po (AC x.node true h1), pa, po (AC x.fst true h2), pa, po (AC x.nxt true h3), pa, pk (An 3 x.cost (-288230376151711744)), pk (AD 3 x.cost 288230376151711744), po (Cb (p := x.q) (c := c) (k := k) x.q.num.sign rfl hk), pk (As 3 x.q.num.sign 0), pk (As 3 x.fst 0), pk (AO 3 x.nxt 0), pk (Am 3 x.kind 1), pa]
        ·by_cases k2 : x.kind = 2
         ·by_cases hz : x.cost = 0
          ·rw [show Bg x = true by unfold Bg; simp [h1, h2, h3, h4, hq, hf, hn, k1, k2, hz] <;> decide]
           exact sr 76 [po (AC x.node true h1), pa, po (AC x.fst true h2), pa, po (AC x.nxt true h3), pa, pk (An 3 x.cost (-288230376151711744)), pk (AD 3 x.cost 288230376151711744), po (Cb (p := x.q) (c := c) (k := k) x.q.num.sign rfl hk), pk (As 3 x.q.num.sign 0), pk (As 3 x.fst 0), pk (AO 3 x.nxt 0), pk (Ae 3 x.kind 1), pk (Am 3 x.kind 2), pa, pk (Am 3 x.cost 0)]
          ·rw [show Bg x = false by unfold Bg; simp [h1, h2, h3, h4, hq, hf, hn, k1, k2, hz] <;> decide]
           exact sr 76 [po (AC x.node true h1), pa, po (AC x.fst true h2), pa, po (AC x.nxt true h3), pa, pk (An 3 x.cost (-288230376151711744)), pk (AD 3 x.cost 288230376151711744), po (Cb (p := x.q) (c := c) (k := k) x.q.num.sign rfl hk), pk (As 3 x.q.num.sign 0), pk (As 3 x.fst 0), pk (AO 3 x.nxt 0), pk (Ae 3 x.kind 1), pk (Am 3 x.kind 2), pa, pk (Ae 3 x.cost 0)]
         ·by_cases k3 : x.kind = 3
          ·rw [show Bg x = false by unfold Bg; simp [h1, h2, h3, h4, hq, hf, hn, k1, k2, k3] <;> decide]
           exact sr 76 [po (AC x.node true h1), pa, po (AC x.fst true h2), pa, po (AC x.nxt true h3), pa, pk (An 3 x.cost (-288230376151711744)), pk (AD 3 x.cost 288230376151711744), po (Cb (p := x.q) (c := c) (k := k) x.q.num.sign rfl hk), pk (As 3 x.q.num.sign 0), pk (As 3 x.fst 0), pk (AO 3 x.nxt 0), pk (Ae 3 x.kind 1), pk (Ae 3 x.kind 2), pk (Am 3 x.kind 3), pa, pa]
          ·rw [show Bg x = false by unfold Bg; simp [h1, h2, h3, h4, hq, hf, hn, k1, k2, k3] <;> decide]
           exact sr 76 [po (AC x.node true h1), pa, po (AC x.fst true h2), pa, po (AC x.nxt true h3), pa, pk (An 3 x.cost (-288230376151711744)), pk (AD 3 x.cost 288230376151711744), po (Cb (p := x.q) (c := c) (k := k) x.q.num.sign rfl hk), pk (As 3 x.q.num.sign 0), pk (As 3 x.fst 0), pk (AO 3 x.nxt 0), pk (Ae 3 x.kind 1), pk (Ae 3 x.kind 2), pk (Ae 3 x.kind 3)]
      ·by_cases k1 : x.kind = 1
       ·rw [show Bg x = false by unfold Bg; simp [h1, h2, h3, h4, hq, hf, k1] <;> decide]
        exact sr 76 [po (AC x.node true h1), pa, po (AC x.fst true h2), pa, po (AC x.nxt true h3), pa, pk (An 3 x.cost (-288230376151711744)), pk (AD 3 x.cost 288230376151711744), po (Cb (p := x.q) (c := c) (k := k) x.q.num.sign rfl hk), pk (As 3 x.q.num.sign 0), pk (AO 3 x.fst 0), pk (Am 3 x.kind 1), pa]
       ·by_cases k2 : x.kind = 2
        ·by_cases hz : x.cost = 0
         ·rw [show Bg x = true by unfold Bg; simp [h1, h2, h3, h4, hq, hf, k1, k2, hz] <;> decide]
          exact sr 76 [po (AC x.node true h1), pa, po (AC x.fst true h2), pa, po (AC x.nxt true h3), pa, pk (An 3 x.cost (-288230376151711744)), pk (AD 3 x.cost 288230376151711744), po (Cb (p := x.q) (c := c) (k := k) x.q.num.sign rfl hk), pk (As 3 x.q.num.sign 0), pk (AO 3 x.fst 0), pk (Ae 3 x.kind 1), pk (Am 3 x.kind 2), pa, pk (Am 3 x.cost 0)]
         ·rw [show Bg x = false by unfold Bg; simp [h1, h2, h3, h4, hq, hf, k1, k2, hz] <;> decide]
          exact sr 76 [po (AC x.node true h1), pa, po (AC x.fst true h2), pa, po (AC x.nxt true h3), pa, pk (An 3 x.cost (-288230376151711744)), pk (AD 3 x.cost 288230376151711744), po (Cb (p := x.q) (c := c) (k := k) x.q.num.sign rfl hk), pk (As 3 x.q.num.sign 0), pk (AO 3 x.fst 0), pk (Ae 3 x.kind 1), pk (Am 3 x.kind 2), pa, pk (Ae 3 x.cost 0)]
        ·by_cases k3 : x.kind = 3
         ·rw [show Bg x = false by unfold Bg; simp [h1, h2, h3, h4, hq, hf, k1, k2, k3] <;> decide]
          exact sr 76 [po (AC x.node true h1), pa, po (AC x.fst true h2), pa, po (AC x.nxt true h3), pa, pk (An 3 x.cost (-288230376151711744)), pk (AD 3 x.cost 288230376151711744), po (Cb (p := x.q) (c := c) (k := k) x.q.num.sign rfl hk), pk (As 3 x.q.num.sign 0), pk (AO 3 x.fst 0), pk (Ae 3 x.kind 1), pk (Ae 3 x.kind 2), pk (Am 3 x.kind 3), pa, pa]
         ·rw [show Bg x = false by unfold Bg; simp [h1, h2, h3, h4, hq, hf, k1, k2, k3] <;> decide]
          exact sr 76 [po (AC x.node true h1), pa, po (AC x.fst true h2), pa, po (AC x.nxt true h3), pa, pk (An 3 x.cost (-288230376151711744)), pk (AD 3 x.cost 288230376151711744), po (Cb (p := x.q) (c := c) (k := k) x.q.num.sign rfl hk), pk (As 3 x.q.num.sign 0), pk (AO 3 x.fst 0), pk (Ae 3 x.kind 1), pk (Ae 3 x.kind 2), pk (Ae 3 x.kind 3)]
     ·by_cases hf : x.fst = 0
      ·by_cases hn : x.nxt = 0
       ·by_cases k1 : x.kind = 1
        ·by_cases hz : x.cost = 0
         ·rw [show Bg x = true by unfold Bg; simp [h1, h2, h3, h4, hq, hf, hn, k1, hz] <;> decide]
          exact sr 76 [po (AC x.node true h1), pa, po (AC x.fst true h2), pa, po (AC x.nxt true h3), pa, pk (An 3 x.cost (-288230376151711744)), pk (AD 3 x.cost 288230376151711744), po (Cb (p := x.q) (c := c) (k := k) x.q.num.sign rfl hk), pk (AO 3 x.q.num.sign 0), pk (As 3 x.fst 0), pk (As 3 x.nxt 0), pk (Am 3 x.kind 1), pa, pk (Am 3 x.cost 0)]
         ·rw [show Bg x = false by unfold Bg; simp [h1, h2, h3, h4, hq, hf, hn, k1, hz] <;> decide]
          exact sr 76 [po (AC x.node true h1), pa, po (AC x.fst true h2), pa, po (AC x.nxt true h3), pa, pk (An 3 x.cost (-288230376151711744)), pk (AD 3 x.cost 288230376151711744), po (Cb (p := x.q) (c := c) (k := k) x.q.num.sign rfl hk), pk (AO 3 x.q.num.sign 0), pk (As 3 x.fst 0), pk (As 3 x.nxt 0), pk (Am 3 x.kind 1), pa, pk (Ae 3 x.cost 0)]
        ·by_cases k2 : x.kind = 2
         ·rw [show Bg x = false by unfold Bg; simp [h1, h2, h3, h4, hq, hf, hn, k1, k2] <;> decide]
          exact sr 76 [po (AC x.node true h1), pa, po (AC x.fst true h2), pa, po (AC x.nxt true h3), pa, pk (An 3 x.cost (-288230376151711744)), pk (AD 3 x.cost 288230376151711744), po (Cb (p := x.q) (c := c) (k := k) x.q.num.sign rfl hk), pk (AO 3 x.q.num.sign 0), pk (As 3 x.fst 0), pk (As 3 x.nxt 0), pk (Ae 3 x.kind 1), pk (Am 3 x.kind 2), pa]
         ·by_cases k3 : x.kind = 3
          ·rw [show Bg x = false by unfold Bg; simp [h1, h2, h3, h4, hq, hf, hn, k1, k2, k3] <;> decide]
           exact sr 76 [po (AC x.node true h1), pa, po (AC x.fst true h2), pa, po (AC x.nxt true h3), pa, pk (An 3 x.cost (-288230376151711744)), pk (AD 3 x.cost 288230376151711744), po (Cb (p := x.q) (c := c) (k := k) x.q.num.sign rfl hk), pk (AO 3 x.q.num.sign 0), pk (As 3 x.fst 0), pk (As 3 x.nxt 0), pk (Ae 3 x.kind 1), pk (Ae 3 x.kind 2), pk (Am 3 x.kind 3), pa]
          ·rw [show Bg x = false by unfold Bg; simp [h1, h2, h3, h4, hq, hf, hn, k1, k2, k3] <;> decide]
           exact sr 76 [po (AC x.node true h1), pa, po (AC x.fst true h2), pa, po (AC x.nxt true h3), pa, pk (An 3 x.cost (-288230376151711744)), pk (AD 3 x.cost 288230376151711744), po (Cb (p := x.q) (c := c) (k := k) x.q.num.sign rfl hk), pk (AO 3 x.q.num.sign 0), pk (As 3 x.fst 0), pk (As 3 x.nxt 0), pk (Ae 3 x.kind 1), pk (Ae 3 x.kind 2), pk (Ae 3 x.kind 3)]
       ·by_cases k1 : x.kind = 1
        ·rw [show Bg x = false by unfold Bg; simp [h1, h2, h3, h4, hq, hf, hn, k1] <;> decide]
         exact sr 76 [po (AC x.node true h1), pa, po (AC x.fst true h2), pa, po (AC x.nxt true h3), pa, pk (An 3 x.cost (-288230376151711744)), pk (AD 3 x.cost 288230376151711744), po (Cb (p := x.q) (c := c) (k := k) x.q.num.sign rfl hk), pk (AO 3 x.q.num.sign 0), pk (As 3 x.fst 0), pk (AO 3 x.nxt 0), pk (Am 3 x.kind 1), pa]
        ·by_cases k2 : x.kind = 2
         ·rw [show Bg x = false by unfold Bg; simp [h1, h2, h3, h4, hq, hf, hn, k1, k2] <;> decide]
          exact sr 76 [po (AC x.node true h1), pa, po (AC x.fst true h2), pa, po (AC x.nxt true h3), pa, pk (An 3 x.cost (-288230376151711744)), pk (AD 3 x.cost 288230376151711744), po (Cb (p := x.q) (c := c) (k := k) x.q.num.sign rfl hk), pk (AO 3 x.q.num.sign 0), pk (As 3 x.fst 0), pk (AO 3 x.nxt 0), pk (Ae 3 x.kind 1), pk (Am 3 x.kind 2), pa]
         ·by_cases k3 : x.kind = 3
          ·rw [show Bg x = false by unfold Bg; simp [h1, h2, h3, h4, hq, hf, hn, k1, k2, k3] <;> decide]
           exact sr 76 [po (AC x.node true h1), pa, po (AC x.fst true h2), pa, po (AC x.nxt true h3), pa, pk (An 3 x.cost (-288230376151711744)), pk (AD 3 x.cost 288230376151711744), po (Cb (p := x.q) (c := c) (k := k) x.q.num.sign rfl hk), pk (AO 3 x.q.num.sign 0), pk (As 3 x.fst 0), pk (AO 3 x.nxt 0), pk (Ae 3 x.kind 1), pk (Ae 3 x.kind 2), pk (Am 3 x.kind 3), pa]
          ·rw [show Bg x = false by unfold Bg; simp [h1, h2, h3, h4, hq, hf, hn, k1, k2, k3] <;> decide]
           exact sr 76 [po (AC x.node true h1), pa, po (AC x.fst true h2), pa, po (AC x.nxt true h3), pa, pk (An 3 x.cost (-288230376151711744)), pk (AD 3 x.cost 288230376151711744), po (Cb (p := x.q) (c := c) (k := k) x.q.num.sign rfl hk), pk (AO 3 x.q.num.sign 0), pk (As 3 x.fst 0), pk (AO 3 x.nxt 0), pk (Ae 3 x.kind 1), pk (Ae 3 x.kind 2), pk (Ae 3 x.kind 3)]
      ·by_cases k1 : x.kind = 1
       ·rw [show Bg x = false by unfold Bg; simp [h1, h2, h3, h4, hq, hf, k1] <;> decide]
        exact sr 76 [po (AC x.node true h1), pa, po (AC x.fst true h2), pa, po (AC x.nxt true h3), pa, pk (An 3 x.cost (-288230376151711744)), pk (AD 3 x.cost 288230376151711744), po (Cb (p := x.q) (c := c) (k := k) x.q.num.sign rfl hk), pk (AO 3 x.q.num.sign 0), pk (AO 3 x.fst 0), pk (Am 3 x.kind 1), pa]
       ·by_cases k2 : x.kind = 2
        ·rw [show Bg x = false by unfold Bg; simp [h1, h2, h3, h4, hq, hf, k1, k2] <;> decide]
         exact sr 76 [po (AC x.node true h1), pa, po (AC x.fst true h2), pa, po (AC x.nxt true h3), pa, pk (An 3 x.cost (-288230376151711744)), pk (AD 3 x.cost 288230376151711744), po (Cb (p := x.q) (c := c) (k := k) x.q.num.sign rfl hk), pk (AO 3 x.q.num.sign 0), pk (AO 3 x.fst 0), pk (Ae 3 x.kind 1), pk (Am 3 x.kind 2), pa]
        ·by_cases k3 : x.kind = 3
         ·rw [show Bg x = false by unfold Bg; simp [h1, h2, h3, h4, hq, hf, k1, k2, k3] <;> decide]
          exact sr 76 [po (AC x.node true h1), pa, po (AC x.fst true h2), pa, po (AC x.nxt true h3), pa, pk (An 3 x.cost (-288230376151711744)), pk (AD 3 x.cost 288230376151711744), po (Cb (p := x.q) (c := c) (k := k) x.q.num.sign rfl hk), pk (AO 3 x.q.num.sign 0), pk (AO 3 x.fst 0), pk (Ae 3 x.kind 1), pk (Ae 3 x.kind 2), pk (Am 3 x.kind 3), pa]
         ·rw [show Bg x = false by unfold Bg; simp [h1, h2, h3, h4, hq, hf, k1, k2, k3] <;> decide]
          exact sr 76 [po (AC x.node true h1), pa, po (AC x.fst true h2), pa, po (AC x.nxt true h3), pa, pk (An 3 x.cost (-288230376151711744)), pk (AD 3 x.cost 288230376151711744), po (Cb (p := x.q) (c := c) (k := k) x.q.num.sign rfl hk), pk (AO 3 x.q.num.sign 0), pk (AO 3 x.fst 0), pk (Ae 3 x.kind 1), pk (Ae 3 x.kind 2), pk (Ae 3 x.kind 3)]
theorem Abd (q : Rat) (hk : k ≤ 1000) : Sp Tryz.prog Dr 37 [fc c k q] (tS (BZ q)) := PI (fun n d a e => by subst e; exact Z9 a hk) (by omega)
theorem Aaa {n : Nat} {q : Rat} (hn : n ≤ 1099511627776) (hw : Sp Tryz.prog Dr 35 [chK c k ⟨1, (n : Int), q, 0, 0, 0⟩] (lb true)) (s : List Nat) (hs8 : B8 s) (hf : Sp Tryz.prog Dr 37 [fc c k q] (tS s)) : (s.length ≤ 400 → Sp Tryz.prog Dr 13 [chK c k ⟨1, (n : Int), q, 0, 0, 0⟩] (.tu [.t (bI (Aa 1 ++ (Aa n) ++ (Aa s.length ++ s))), ci 0])) ∧ (400 < s.length → Sp Tryz.prog Dr 13 [chK c k ⟨1, (n : Int), q, 0, 0, 0⟩] (.tu [.one (.z), ci 10])) := by
 have hn' : n ≤ 4611686018427387904 := by omega
 have h1 := AG (n := 1) (by omega)
 have h2 := AG hn';constructor
 ·intro hl
  exact sr 44 [po (hw), pa, pom [6] (Gy 1 (by omega)), pom [6, 9] (Ea (Aa 1) (by first | omega | (simp; omega)) n hn'), pa, po (hf), pk (Bs 9 3 s), pk (AD 3 (s.length : Int) 400), pom [6, 12] (SN (Aa 1 ++ (Aa n)) (by simp; omega) hs8 (by omega)), ⟨.part ([.sl 25, .i 0]) 0 1 [.sl 25], rfl⟩, ⟨.part ([.sl 25, .i 0]) 1 1 [.i 0], rfl⟩, pm (AV (I := Dr) (t := 2) (k := 25) (E := [(0, .cv (.ag [.i 1, .i (n : Int), .b (.it (fF c k q)), .i 0, .i 0, .i 0])), (1, .p 0 0), (3, .i 0), (6, .cv (.ag [.i 1, .i (n : Int), .b (.it (fF c k q)), .i 0, .i 0, .i 0])), (7, .o true), (8, .o false), (4, .p 6 0), (9, .p 0 0), (10, .i 1), (11, .tu []), (12, .p 0 1), (13, .i (n : Int)), (14, .tu []), (15, .p 0 0), (16, .i 1), (18, .o true), (17, .o true), (19, .p 0 2), (20, .cv (.ag [.b (.it (fF c k q))])), (21, .cv (.one (.b (.lit (.string (AI s)))))), (5, .cv (.one (.b (.lit (.string (AI s)))))), (22, .cv (.one (.b (.lit (.string (AI s)))))), (23, .i (s.length : Int)), (24, .o false), (25, .cv (.one (.b (.lit (.string (AI s)))))), (26, .tu []), (40, .p 6 0), (41, .s 25), (42, .p 6 1), (43, .i 0)]) (B := [(0, some ⟨28, none, [.i 1, .i (n : Int), .b (.it (fF c k q)), .i 0, .i 0, .i 0]⟩), (6, some ⟨67, none, [.sl 25, .i 0]⟩)]) (nx := 32) (T := 5) (sz := 1) (n := ((Aa 1 ++ (Aa n) ++ (Aa s.length ++ s)).length)) ((Aa 1 ++ (Aa n) ++ (Aa s.length ++ s)).map Af) rfl (by simp) Bm rfl)]
 ·intro hl
  exact sr 44 [po (hw), pa, pom [6] (Gy 1 (by omega)), pom [6, 9] (Ea (Aa 1) (by first | omega | (simp; omega)) n hn'), pa, po (hf), pk (Bs 9 3 s), pk (Dp 3 (s.length : Int) 400)]
theorem ZZ {n a b : Nat} {q : Rat} (hn : n ≤ 1099511627776) (ha : a ≤ 1099511627776) (hb : b ≤ 1099511627776) (hw : Sp Tryz.prog Dr 35 [chK c k ⟨2, (n : Int), q, (a : Int), (b : Int), 0⟩] (lb true)) : Sp Tryz.prog Dr 13 [chK c k ⟨2, (n : Int), q, (a : Int), (b : Int), 0⟩] (.tu [.t (bI (Aa 2 ++ (Aa n) ++ (Aa a) ++ (Aa b))), ci 0]) := by
 have hn' : n ≤ 4611686018427387904 := by omega
 have ha' : a ≤ 4611686018427387904 := by omega
 have hb' : b ≤ 4611686018427387904 := by omega
 have h1 := AG (n := 2) (by omega)
 have h2 := AG hn';have h3 := AG ha';exact sr 44 [po (hw), pa, pom [6] (Gy 2 (by omega)), pom [6, 9] (Ea (Aa 2) (by first | omega | (simp; omega)) n hn'), pa, pa, pom [6, 12] (Ea (Aa 2 ++ (Aa n)) (by first | omega | (simp; omega)) a ha'), pom [6, 21] (Ea (Aa 2 ++ (Aa n) ++ (Aa a)) (by first | omega | (simp; omega)) b hb'), ⟨.part ([.sl 24, .i 0]) 0 1 [.sl 24], rfl⟩, ⟨.part ([.sl 24, .i 0]) 1 1 [.i 0], rfl⟩, pm (AV (I := Dr) (t := 2) (k := 24) (E := [(0, .cv (.ag [.i 2, .i (n : Int), .b (.it (fF c k q)), .i (a : Int), .i (b : Int), .i 0])), (1, .p 0 0), (3, .i 0), (6, .cv (.ag [.i 2, .i (n : Int), .b (.it (fF c k q)), .i (a : Int), .i (b : Int), .i 0])), (7, .o true), (8, .o false), (4, .p 6 0), (9, .p 0 0), (10, .i 2), (11, .tu []), (12, .p 0 1), (13, .i (n : Int)), (14, .tu []), (15, .p 0 0), (16, .i 2), (18, .o false), (17, .o false), (28, .o true), (27, .o true), (29, .p 0 6), (30, .i (a : Int)), (31, .tu []), (32, .p 0 7), (33, .i (b : Int)), (34, .tu []), (40, .p 6 0), (41, .s 24), (42, .p 6 1), (43, .i 0)]) (B := [(0, some ⟨28, none, [.i 2, .i (n : Int), .b (.it (fF c k q)), .i (a : Int), .i (b : Int), .i 0]⟩), (6, some ⟨67, none, [.sl 24, .i 0]⟩)]) (nx := 31) (T := 5) (sz := 1) (n := ((Aa 2 ++ (Aa n) ++ (Aa a) ++ (Aa b)).length)) ((Aa 2 ++ (Aa n) ++ (Aa a) ++ (Aa b)).map Af) rfl (by simp) Bm rfl)]
theorem ZY {n : Nat} {z : Int} {q : Rat} (hn : n ≤ 1099511627776) (hz : BL z = true) (hw : Sp Tryz.prog Dr 35 [chK c k ⟨3, (n : Int), q, 0, 0, z⟩] (lb true)) : Sp Tryz.prog Dr 13 [chK c k ⟨3, (n : Int), q, 0, 0, z⟩] (.tu [.t (bI (Aa 3 ++ (Aa n) ++ (Aa (zig z)))), ci 0]) := by
 have hn' : n ≤ 4611686018427387904 := by omega
 have h1 := AG (n := 3) (by omega)
 have h2 := AG hn';exact sr 44 [po (hw), pa, pom [6] (Gy 3 (by omega)), pom [6, 9] (Ea (Aa 3) (by first | omega | (simp; omega)) n hn'), pa, pa, pa, pom [6, 12] (U5 (Aa 3 ++ (Aa n)) (by simp; omega) z hz), ⟨.part ([.sl 23, .i 0]) 0 1 [.sl 23], rfl⟩, ⟨.part ([.sl 23, .i 0]) 1 1 [.i 0], rfl⟩, pm (AV (I := Dr) (t := 2) (k := 23) (E := [(0, .cv (.ag [.i 3, .i (n : Int), .b (.it (fF c k q)), .i 0, .i 0, .i z])), (1, .p 0 0), (3, .i 0), (6, .cv (.ag [.i 3, .i (n : Int), .b (.it (fF c k q)), .i 0, .i 0, .i z])), (7, .o true), (8, .o false), (4, .p 6 0), (9, .p 0 0), (10, .i 3), (11, .tu []), (12, .p 0 1), (13, .i (n : Int)), (14, .tu []), (15, .p 0 0), (16, .i 3), (18, .o false), (17, .o false), (28, .o false), (27, .o false), (36, .o true), (35, .o true), (37, .p 0 8), (38, .i z), (39, .tu []), (40, .p 6 0), (41, .s 23), (42, .p 6 1), (43, .i 0)]) (B := [(0, some ⟨28, none, [.i 3, .i (n : Int), .b (.it (fF c k q)), .i 0, .i 0, .i z]⟩), (6, some ⟨67, none, [.sl 23, .i 0]⟩)]) (nx := 30) (T := 5) (sz := 1) (n := ((Aa 3 ++ (Aa n) ++ (Aa (zig z))).length)) ((Aa 3 ++ (Aa n) ++ (Aa (zig z))).map Af) rfl (by simp) Bm rfl)]
theorem Aab (x : Ch) (hw : Sp Tryz.prog Dr 35 [chK c k x] (lb false)) : Sp Tryz.prog Dr 13 [chK c k x] (.tu [.one (.z), ci 5]) :=
 sr 44 [po (hw), pa]
theorem TB {f : FuncId} {args : List CT} {e : Int} (h : Sp Tryz.prog I f args (.tu [.one (.z), ci e])) : Sp Tryz.prog I f args (.tu [.t (bI []), ci e]) := h.rs (OF ⟨XLe.one NZ, CTle.refl, trivial⟩)
theorem KW {x : Ch} (h : Bg x = true) : ∃ n : Nat, n ≤ 1099511627776 ∧ x.node = (n : Int) ∧ ((x.kind = 1 ∧ x.fst = 0 ∧ x.nxt = 0 ∧ x.cost = 0) ∨ (x.kind = 2 ∧ x.q.num.sign = 0 ∧ x.cost = 0 ∧ ∃ a b : Nat, a ≤ 1099511627776 ∧ b ≤ 1099511627776 ∧ x.fst = (a : Int) ∧ x.nxt = (b : Int)) ∨ (x.kind = 3 ∧ x.q.num.sign = 0 ∧ x.fst = 0 ∧ x.nxt = 0 ∧ n = 0 ∧ BL x.cost = true)) := by
 unfold Bg at h;simp only [Bool.and_eq_true] at h;obtain ⟨⟨⟨⟨h1, h2⟩, h3⟩, h4⟩, h5⟩ := h;have g1 := NX h1;have g2 := NX h2;have g3 := NX h3;refine ⟨x.node.toNat, by omega, by omega, ?_⟩
 by_cases k1 : x.kind = 1
 ·rw [if_pos k1] at h5
  simp at h5;exact .inl ⟨k1, h5.1.1, h5.1.2, h5.2⟩
 ·rw [if_neg k1] at h5
  by_cases k2 : x.kind = 2
  ·rw [if_pos k2] at h5
   simp at h5;exact .inr (.inl ⟨k2, by rw [h5.1]; rfl, h5.2, x.fst.toNat, x.nxt.toNat, by omega, by omega, by omega, by omega⟩)
  ·rw [if_neg k2] at h5
   by_cases k3 : x.kind = 3
   ·rw [if_pos k3] at h5
    simp at h5;exact .inr (.inr ⟨k3, by rw [h5.1.1.1]; rfl, h5.1.1.2, h5.1.2, by omega, h4⟩)
   ·rw [if_neg k3] at h5; cases h5
theorem VV (x : Ch) (hk : k ≤ 1000) : Sp Tryz.prog Dr 13 [chK c k x] (.tu [.t (bI (Bl x).1), ci (Bl x).2]) := by
 have hw := AaX (I := Dr) (c := c) (k := k) x (by omega)
 unfold Bl;cases hb : Bg x with
 | false =>
  rw [hb] at hw;rw [if_pos rfl];exact TB (Aab x hw)
 | true =>
  rw [hb] at hw;rw [if_neg (by decide)]
  obtain ⟨n, hn, e1, h⟩ := KW hb;obtain ⟨kind, node, q, fst, nxt, cost⟩ := x;simp only at e1 h;subst e1;rcases h with ⟨rfl, rfl, rfl, rfl⟩ | ⟨rfl, hs, rfl, a, b, ha, hb', rfl, rfl⟩ | ⟨rfl, hs, rfl, rfl, rfl, hz⟩
  ·obtain ⟨p1, p2⟩ := Aaa hn hw (BZ q) (KN q) (Abd q hk)
   by_cases hl : 400 < (BZ q).length
   ·rw [if_pos ⟨rfl, hl⟩]
    exact TB (p2 hl)
   ·rw [if_neg (fun h => hl h.2)]
    exact p1 (by omega)
  ·rw [if_neg (fun h => by cases h.1)]
   have := ZZ hn ha hb' hw;rw [List.append_assoc] at this;exact this
  ·rw [if_neg (fun h => by cases h.1)]
   exact ZY hn hz hw
end
def Tz (l : List Nat) (i : Nat) : Int := if 48 ≤ l.getD i 0 ∧ l.getD i 0 ≤ 57 then 0 else 1
theorem Sb {l : List Nat} : AN (Tz l) l.length 0 = 0 ↔ okD l := by
 constructor
 ·intro h
  refine NU fun k hk => ?_
  have := Bj.1 h k (Nat.zero_le _) (by omega)
  unfold Tz at this;split at this
  ·assumption
  ·omega
 ·intro h
  refine Bj.2 fun k _ hk => ?_
  unfold Tz;rw [if_pos (h.getD (by omega))]
theorem b0 : B8 [] := fun x hx => by cases hx
theorem Jg {l : List Nat} (h : B8 l) : B8 (AZ l) := by unfold AZ; split; exact h.drop 1; exact h
theorem CF (l : List Nat) : (AZ l).length ≤ l.length := by unfold AZ; split <;> simp
section
variable {I : WInv}
def Ty (part : List Nat) (neg : Bool) (z i : Int) : Go.Proofs.YtdgbealknnmkoaaGreatDoor.St := ⟨[(1, .cv (.one (.b (.lit (.string (AI part)))))), (4, .p 0 0), (6, .o neg), (7, .p 11 0), (36, .i ((part.length : Nat) : Int)), (37, .i i)], [(0, some ⟨26, none, [.o false, .z, .o false, .z]⟩), (11, some ⟨24, none, [.b (.it (IP (cP z)))]⟩)], 50⟩
theorem NR (part : List Nat) (neg : Bool) (z : Int) (hpb : B8 part) (hl : part.length ≤ 1000) : (okD part → LoopTr Tryz.prog I 81 (Bn Tryz.prog 103 0) (Ty part neg z ((0 : Nat) : Int)) (.exit 0) ⟨[(1, .cv (.one (.b (.lit (.string (AI part)))))), (4, .p 0 0), (6, .o neg), (7, .p 11 0)], [(0, some ⟨26, none, [.o false, .z, .o false, .z]⟩), (11, some ⟨24, none, [.b (.it (IP (cP z)))]⟩)], 50⟩) ∧ (¬ okD part → LoopTr Tryz.prog I 81 (Bn Tryz.prog 103 0) (Ty part neg z ((0 : Nat) : Int)) .ret ⟨[(4, .p 0 0), (5, .i 1)], [(0, some ⟨26, none, [.o false, .z, .o false, .z]⟩)], 50⟩) := by
 have loop := Db (P := Tryz.prog) (I := I) (nt := 81) (c := Bn Tryz.prog 103 0) (e := 0) (b0 := ⟨[(1, .cv (.one (.b (.lit (.string (AI part)))))), (4, .p 0 0), (6, .o neg), (7, .p 11 0)], [(0, some ⟨26, none, [.o false, .z, .o false, .z]⟩), (11, some ⟨24, none, [.b (.it (IP (cP z)))]⟩)], 50⟩) (Tz part) part.length (fun i => Ty part neg z (i : Int)) (fun _ => ⟨[(4, .p 0 0), (5, .i 1)], [(0, some ⟨26, none, [.o false, .z, .o false, .z]⟩)], 50⟩) (fun i hi hc => ?_) ?_ (fun i hi hc => ?_)
 ·exact ⟨fun h => loop.1 (Sb.2 h), fun h => loop.2 fun h' => h (Sb.1 h')⟩
 ·unfold Tz at hc
  split at hc
  ·rename_i hh
   have h1 : decide (((part.getD i 0 : Nat) : Int) < 48) = false := decide_eq_false (by omega)
   have h2 : decide ((57 : Int) < ((part.getD i 0 : Nat) : Int)) = false := decide_eq_false (by omega)
   exact rr [pk (AA 3 (i : Int) ((part.length : Nat) : Int)), pk (Lj 9 part i _ rfl hi hpb), pk (R8 5 ((part.getD i 0 : Nat) : Int) 48 false h1), pk (Lj 9 part i _ rfl hi hpb), pk (WT 5 ((part.getD i 0 : Nat) : Int) 57 false h2), pk (Bd 3 (i : Int) 1 ⟨by omega, by omega⟩)]
  ·omega
 ·exact rr [pk (An 3 ((part.length : Nat) : Int) ((part.length : Nat) : Int))]
 ·unfold Tz at hc
  split at hc
  ·omega
  ·by_cases hh : part.getD i 0 < 48
   ·have h1 : decide (((part.getD i 0 : Nat) : Int) < 48) = true := decide_eq_true (by omega)
    exact rr [pk (AA 3 (i : Int) ((part.length : Nat) : Int)), pk (Lj 9 part i _ rfl hi hpb), pk (R8 5 ((part.getD i 0 : Nat) : Int) 48 true h1)]
   ·have h1 : decide (((part.getD i 0 : Nat) : Int) < 48) = false := decide_eq_false (by omega)
    have h2 : decide ((57 : Int) < ((part.getD i 0 : Nat) : Int)) = true := decide_eq_true (by omega)
    exact rr [pk (AA 3 (i : Int) ((part.length : Nat) : Int)), pk (Lj 9 part i _ rfl hi hpb), pk (R8 5 ((part.getD i 0 : Nat) : Int) 48 false h1), pk (Lj 9 part i _ rfl hi hpb), pk (WT 5 ((part.getD i 0 : Nat) : Int) 57 true h2)]
theorem ZC {whole part : List Nat} (hw : B8 whole) (hpb : B8 part) (hwl : whole.length ≤ 400) (hl : part.length ≤ 400) (h : ¬ (GM (AZ whole) ∧ part ≠ [] ∧ okD part)) : Sp Tryz.prog I 103 [cS whole, cS part] (.tu [frz, ci 1]) := by
 have hbl := CF whole;have hh := VJ (I := I) hw;by_cases D : GM (AZ whole)
 ·have pp := Cw (I := I) (Jg hw) (G8 D (by omega)) (by omega)
  have lz := Dk D.2.1 (by omega)
  obtain ⟨z, hz⟩ : ∃ z : Int, ((nd (AZ whole) : Nat) : Int) = z := ⟨_, rfl⟩;have hs : decide (z.sign < 0) = false := decide_eq_false fun hh => by have := Int.sign_neg_iff.1 hh; omega
  rw [hz] at pp lz;have sg := B9 (I := I) z.sign (Bh lz (by omega)) rfl
  generalize BK whole = neg at *;by_cases h0 : part = []
  ·have h0' : part.length = 0 := by rw [h0]; rfl
   cases neg <;> exact sr 81 [po hh, po (DV hw), po pp, po sg, pk (E6 3 z.sign 0 false hs), pk (Bs 9 3 part), pk (Am 3 ((part.length : Nat) : Int) 0)]
  ·have h0' : part.length ≠ 0 := fun hh => h0 (List.eq_nil_of_length_eq_zero hh)
   cases neg
   ·have lo := (NR (I := I) part false z hpb (by omega)).2 fun hh => h ⟨D, h0, hh⟩
    unfold Ty at lo;exact sr 81 [po hh, po (DV hw), po pp, po sg, pk (E6 3 z.sign 0 false hs), pk (Bs 9 3 part), pk (Ae 3 ((part.length : Nat) : Int) 0), pk (Bs 9 3 part), pl lo]
   ·have lo := (NR (I := I) part true z hpb (by omega)).2 fun hh => h ⟨D, h0, hh⟩
    unfold Ty at lo;exact sr 81 [po hh, po (DV hw), po pp, po sg, pk (E6 3 z.sign 0 false hs), pk (Bs 9 3 part), pk (Ae 3 ((part.length : Nat) : Int) 0), pk (Bs 9 3 part), pl lo]
 ·by_cases G : CD (BK (AZ whole)) (AZ (AZ whole))
  ·have pp := Cw (I := I) (Jg hw) (Jf G (by omega)) (by omega)
   have lz : Lim 84 (sgn (BK (AZ whole)) (nd (AZ (AZ whole)))) := (Dk G.1.2.1 (by have := CF (AZ whole); omega)).sgn _
   have hneg := PN G D;generalize sgn (BK (AZ whole)) (nd (AZ (AZ whole))) = z at *;have hs : decide (z.sign < 0) = true := decide_eq_true (Int.sign_neg_iff.2 hneg);have sg := B9 (I := I) z.sign (Bh lz (by omega)) rfl
   generalize BK whole = neg at *;cases neg <;> exact sr 81 [po hh, po (DV hw), po pp, po sg, pk (E6 3 z.sign 0 true hs)]
  ·have pp := Cw (I := I) (Jg hw) (NS G (by omega)) (by omega)
   generalize BK whole = neg at *;cases neg <;> exact sr 81 [po hh, po (DV hw), po pp]
theorem XB {whole part : List Nat} (hw : B8 whole) (hwl : whole.length + part.length ≤ 399) (D : GM (AZ whole)) (hp0 : part ≠ []) (hp : okD part) : Sp Tryz.prog I 103 [cS whole, cS part] (.tu [frc (Rat.divInt (sgn (BK whole) (nd (AZ whole ++ part))) ((10 ^ part.length : Nat) : Int)), ci 0]) := by
 have hbl := CF whole;have hh := VJ (I := I) hw;have hpb := hp.b8;have hp0' : part.length ≠ 0 := fun hh => hp0 (List.eq_nil_of_length_eq_zero hh)
 have pp := Cw (I := I) (Jg hw) (G8 D (by omega)) (by omega)
 have lz := Dk D.2.1 (by omega)
 have lpt := Dk hp (by omega)
 have lN := Dk (D.2.1.app hp) (by rw [List.length_append]; omega)
 have eN : ((nd (AZ whole ++ part) : Nat) : Int) = ((nd (AZ whole) : Nat) : Int) * ((10 ^ part.length : Nat) : Int) + ((nd part : Nat) : Int) := by
  rw [JP, Int.natCast_add, Int.natCast_mul]
 obtain ⟨M, hM⟩ : ∃ M, nd (AZ whole ++ part) = M := ⟨_, rfl⟩;rw [hM] at eN lN ⊢;obtain ⟨z, hz⟩ : ∃ z : Int, ((nd (AZ whole) : Nat) : Int) = z := ⟨_, rfl⟩;have hs : decide (z.sign < 0) = false := decide_eq_false fun hh => by have := Int.sign_neg_iff.1 hh; omega
 rw [hz] at pp lz eN;have sg := B9 (I := I) z.sign (Bh lz (by omega)) rfl
 have hrb : B8 (part.dropWhile (· == 48)) := fun x hx => hpb x ((List.dropWhile_sublist _).subset hx)
 have hrl : (part.dropWhile (· == 48)).length ≤ part.length := (List.dropWhile_sublist _).length_le;have rp := AaE (I := I) part.length (by omega)
 have ps : Sp Tryz.prog I 101 [cS ([49] ++ List.replicate part.length 48)] (.tu [.ag (ic ((10 ^ part.length : Nat) : Int)), ci 0]) := by
  have := Cw (I := I) (Qf part.length).2.1.b8 (G8 (Qf part.length) (by simp; omega)) (by simp; omega)
  rw [ZH] at this;exact this
 have lt := RH (k := part.length) (by omega)
 have tn := Zp part.length;generalize ((10 ^ part.length : Nat) : Int) = t at *;have nt := Bh lt (by omega)
 have mu := Vx (I := I) (Bh lz (by omega)) nt
 have lm := lz.mul lt;have lo0 := fun b => (NR (I := I) part b z hpb (by omega)).1 hp
 unfold Ty at lo0;have ng := F9 (I := I) (Bh lN (by omega))
 have r0 := Eb (I := I) (Bh lN (by omega)) nt (lN.mono (by omega)) (lt.mono (by omega)) tn
 have r1 := Eb (I := I) (Bh lN.neg (by omega)) nt (lN.neg.mono (by omega)) (lt.mono (by omega)) tn
 generalize BK whole = neg at *;by_cases hr : part.dropWhile (· == 48) = []
 ·have e0 : nd part = 0 := by rw [← Pw, hr]; rfl
  have ad := O5 (I := I) (Bh lm (by omega)) NV
  rw [show z * t + 0 = (M : Int) by rw [eN, e0]; simp] at ad
  cases neg
  ·have lo := lo0 false
   have re := r0;exact sr 81 [po hh, po (DV hw), po pp, po sg, pk (E6 3 z.sign 0 false hs), pk (Bs 9 3 part), pk (Ae 3 ((part.length : Nat) : Int) 0), pk (Bs 9 3 part), pl lo, po (KD hpb), pk (JC 9 (part.dropWhile (· == 48)) [] false (decide_eq_true hr) hrb b0), pk (Bs 9 3 part), po rp, pk (FT 9 [49] (List.replicate part.length 48) (by simp; omega)), po ps, po mu, po ad, po re]
  ·have lo := lo0 true
   have re := r1;exact sr 81 [po hh, po (DV hw), po pp, po sg, pk (E6 3 z.sign 0 false hs), pk (Bs 9 3 part), pk (Ae 3 ((part.length : Nat) : Int) 0), pk (Bs 9 3 part), pl lo, po (KD hpb), pk (JC 9 (part.dropWhile (· == 48)) [] false (decide_eq_true hr) hrb b0), pk (Bs 9 3 part), po rp, pk (FT 9 [49] (List.replicate part.length 48) (by simp; omega)), po ps, po mu, po ad, po ng, po re]
 ·have pr := Cw (I := I) hrb (G8 (R1 hp hr) (by omega)) (by omega)
  rw [Pw] at pr;have ad := O5 (I := I) (Bh lm (by omega)) (Bh lpt (by omega))
  rw [← eN] at ad;cases neg
  ·have lo := lo0 false
   have re := r0;exact sr 81 [po hh, po (DV hw), po pp, po sg, pk (E6 3 z.sign 0 false hs), pk (Bs 9 3 part), pk (Ae 3 ((part.length : Nat) : Int) 0), pk (Bs 9 3 part), pl lo, po (KD hpb), pk (JC 9 (part.dropWhile (· == 48)) [] true (decide_eq_false hr) hrb b0), po pr, pk (Bs 9 3 part), po rp, pk (FT 9 [49] (List.replicate part.length 48) (by simp; omega)), po ps, po mu, po ad, po re]
  ·have lo := lo0 true
   have re := r1;exact sr 81 [po hh, po (DV hw), po pp, po sg, pk (E6 3 z.sign 0 false hs), pk (Bs 9 3 part), pk (Ae 3 ((part.length : Nat) : Int) 0), pk (Bs 9 3 part), pl lo, po (KD hpb), pk (JC 9 (part.dropWhile (· == 48)) [] true (decide_eq_false hr) hrb b0), po pr, pk (Bs 9 3 part), po rp, pk (FT 9 [49] (List.replicate part.length 48) (by simp; omega)), po ps, po mu, po ad, po ng, po re]
theorem Pf {xs : List Nat} (h : 400 < xs.length) : Sp Tryz.prog I 49 [cS xs] (.tu [frz, ci 10]) :=
 sr 72 [pk (Bs 9 3 xs), pk (Dp 3 ((xs.length : Nat) : Int) 400)]
theorem Jc {xs : List Nat} {i : Nat} (hx : B8 xs) (hl : xs.length ≤ 400) (hi : Ds 47 xs = some i) (G : CD (BK (xs.take i)) (AZ (xs.take i))) (D : GM (xs.drop (i + 1))) (h48 : xs.drop (i + 1) ≠ [48]) : Sp Tryz.prog At 49 [cS xs] (.tu [frc (Rat.divInt (sgn (BK (xs.take i)) (nd (AZ (xs.take i)))) ((nd (xs.drop (i + 1)) : Nat) : Int)), ci 0]) := by
 have cs := Mh (c := 47) (by omega) hx (by omega) hi
 have l1 : (xs.take i).length ≤ 400 := by rw [List.length_take]; omega
 have l2 : (xs.drop (i + 1)).length ≤ 400 := by rw [List.length_drop]; omega
 have pn := Cw (I := At) (hx.take i) (Jf G l1) (by omega)
 have pdd := Cw (I := At) (hx.drop (i + 1)) (G8 D l2) (by omega)
 have ln : Lim 84 (sgn (BK (xs.take i)) (nd (AZ (xs.take i)))) := (Dk G.1.2.1 (by have := CF (xs.take i); omega)).sgn _
 have ld := Dk D.2.1 (by omega)
 have hp := Vw D h48;generalize sgn (BK (xs.take i)) (nd (AZ (xs.take i))) = n at *;obtain ⟨d, hd⟩ : ∃ d : Int, ((nd (xs.drop (i + 1)) : Nat) : Int) = d := ⟨_, rfl⟩;have hd0 : 0 < d := by omega
 rw [hd] at pdd ld ⊢;have sg := B9 (I := At) 1 (Bh ld (by omega)) (Int.sign_eq_one_of_pos hd0)
 have re := Eb (I := At) (Bh ln (by omega)) (Bh ld (by omega)) (ln.mono (by omega)) (ld.mono (by omega)) (by omega)
 exact sr 72 [pk (Bs 9 3 xs), pk (AD 3 ((xs.length : Nat) : Int) 400), po cs, po pn, po pdd, po sg, po re]
theorem Pe {xs : List Nat} {i : Nat} (hx : B8 xs) (hl : xs.length ≤ 400) (hi : Ds 47 xs = some i) (h : ¬ (CD (BK (xs.take i)) (AZ (xs.take i)) ∧ GM (xs.drop (i + 1)) ∧ xs.drop (i + 1) ≠ [48])) : Sp Tryz.prog At 49 [cS xs] (.tu [frz, ci 1]) := by
 have cs := Mh (c := 47) (by omega) hx (by omega) hi
 have l1 : (xs.take i).length ≤ 400 := by rw [List.length_take]; omega
 have l2 : (xs.drop (i + 1)).length ≤ 400 := by rw [List.length_drop]; omega
 by_cases G : CD (BK (xs.take i)) (AZ (xs.take i))
 ·have pn := Cw (I := At) (hx.take i) (Jf G l1) (by omega)
  have le : ∀ d : Int, d ≤ 0 → d.sign ≤ 0 := fun d hd => by
   rcases Int.lt_or_eq_of_le hd with h1 | h1
   ·rw [Int.sign_eq_neg_one_of_neg h1]; omega
   ·rw [h1]; decide
  by_cases D : GM (xs.drop (i + 1))
  ·have e48 : xs.drop (i + 1) = [48] := by
    by_cases h1 : xs.drop (i + 1) = [48]
    ·exact h1
    ·exact absurd ⟨G, D, h1⟩ h
   have pdd := Cw (I := At) (hx.drop (i + 1)) (G8 D l2) (by omega)
   rw [show ((nd (xs.drop (i + 1)) : Nat) : Int) = 0 by rw [e48]; rfl] at pdd
   have sg := B9 (I := At) 0 (Bh (Gj 1) (by omega)) rfl
   exact sr 72 [pk (Bs 9 3 xs), pk (AD 3 ((xs.length : Nat) : Int) 400), po cs, po pn, po pdd, po sg]
  ·by_cases G2 : CD (BK (xs.drop (i + 1))) (AZ (xs.drop (i + 1)))
   ·have pdd := Cw (I := At) (hx.drop (i + 1)) (Jf G2 l2) (by omega)
    have ld : Lim 84 (sgn (BK (xs.drop (i + 1))) (nd (AZ (xs.drop (i + 1))))) := (Dk G2.1.2.1 (by have := CF (xs.drop (i + 1)); omega)).sgn _
    have hneg := PN G2 D;generalize sgn (BK (xs.drop (i + 1))) (nd (AZ (xs.drop (i + 1)))) = d at *;have sg := B9 (I := At) (-1) (Bh ld (by omega)) (Int.sign_eq_neg_one_of_neg hneg)
    exact sr 72 [pk (Bs 9 3 xs), pk (AD 3 ((xs.length : Nat) : Int) 400), po cs, po pn, po pdd, po sg]
   ·have pdd := Cw (I := At) (hx.drop (i + 1)) (NS G2 l2) (by omega)
    exact sr 72 [pk (Bs 9 3 xs), pk (AD 3 ((xs.length : Nat) : Int) 400), po cs, po pn, po pdd]
 ·have pn := Cw (I := At) (hx.take i) (NS G l1) (by omega)
  exact sr 72 [pk (Bs 9 3 xs), pk (AD 3 ((xs.length : Nat) : Int) 400), po cs, po pn]
theorem LA {xs : List Nat} {j : Nat} {r : CT} {code : Int} (hx : B8 xs) (hl : xs.length ≤ 400) (hi : Ds 47 xs = none) (hj : Ds 46 xs = some j) (hr : (∃ q : Rat, r = frc q) ∨ r = frz) (pdr : Sp Tryz.prog At 103 [cS (xs.take j), cS (xs.drop (j + 1))] (.tu [r, ci code])) : Sp Tryz.prog At 49 [cS xs] (.tu [r, ci code]) := by
 have c1 := Gp (c := 47) (by omega) hx (by omega) hi
 have c2 := Mh (c := 46) (by omega) hx (by omega) hj
 rcases hr with ⟨q, rfl⟩ | rfl
 ·exact sr 72 [pk (Bs 9 3 xs), pk (AD 3 ((xs.length : Nat) : Int) 400), po c1, po c2, po pdr]
 ·exact sr 72 [pk (Bs 9 3 xs), pk (AD 3 ((xs.length : Nat) : Int) 400), po c1, po c2, po pdr]
theorem L9 {xs : List Nat} (hx : B8 xs) (hl : xs.length ≤ 400) (hi : Ds 47 xs = none) (hj : Ds 46 xs = none) (G : CD (BK xs) (AZ xs)) : Sp Tryz.prog At 49 [cS xs] (.tu [frc ((sgn (BK xs) (nd (AZ xs)) : Int) : Rat), ci 0]) := by
 have c1 := Gp (c := 47) (by omega) hx (by omega) hi
 have c2 := Gp (c := 46) (by omega) hx (by omega) hj
 have pn := Cw (I := At) hx (Jf G hl) (by omega)
 have ln : Lim 84 (sgn (BK xs) (nd (AZ xs))) := (Dk G.1.2.1 (by have := CF xs; omega)).sgn _
 generalize sgn (BK xs) (nd (AZ xs)) = n at *;have fi := Ro (I := At) (Bh ln (by omega))
 exact sr 72 [pk (Bs 9 3 xs), pk (AD 3 ((xs.length : Nat) : Int) 400), po c1, po c2, po pn, po fi]
theorem Pg {xs : List Nat} (hx : B8 xs) (hl : xs.length ≤ 400) (hi : Ds 47 xs = none) (hj : Ds 46 xs = none) (G : ¬ CD (BK xs) (AZ xs)) : Sp Tryz.prog At 49 [cS xs] (.tu [frz, ci 1]) := by
 have c1 := Gp (c := 47) (by omega) hx (by omega) hi
 have c2 := Gp (c := 46) (by omega) hx (by omega) hj
 have pn := Cw (I := At) hx (NS G hl) (by omega)
 exact sr 72 [pk (Bs 9 3 xs), pk (AD 3 ((xs.length : Nat) : Int) 400), po c1, po c2, po pn]
end
section
variable {I : WInv}
theorem QQ (q : Rat) (hl : (BZ q).length ≤ 400) : Sp Tryz.prog At 49 [cS (BZ q)] (.tu [frc q, ci 0]) := by
 have hx := KN q;by_cases h : q.den = 1
 ·obtain ⟨h1, h2⟩ := TW q h
  have e : BZ q = CG q.num := by unfold BZ; rw [if_pos h]
  have hp := Vp q.num (by rw [← e]; exact hl)
  rw [← e] at hp;rcases hp with hp | hp | hp
  ·omega
  ·obtain ⟨_, G, _, hz⟩ := hp
   have := L9 hx hl h1 h2 G;rw [← hz] at this;have e2 : ((q.num : Int) : Rat) = q := (X6 q.num).symm.trans (by
    have := C9 q;rw [h] at this;exact this)
   rwa [e2] at this
  ·omega
 ·have hi := Rs q h
  have e : BZ q = CG q.num ++ ([47] ++ CG (q.den : Int)) := by unfold BZ; rw [if_neg h]
  have et : (BZ q).take (CG q.num).length = CG q.num := by rw [e]; exact List.take_left
  have ed : (BZ q).drop ((CG q.num).length + 1) = dec q.den := by
   rw [e, ← List.drop_drop, List.drop_left, ← PV]
   rfl
  have hl2 := hl;rw [e, List.length_append] at hl2;have hp := Vp q.num (by omega)
  rcases hp with hp | hp | hp
  ·omega
  ·obtain ⟨_, G, _, hz⟩ := hp
   have hd0 := Qe q;have := Jc hx hl hi (by rw [et]; exact G) (by rw [ed]; exact Qg q.den) (by
    rw [ed];intro h48;have h2 := LI q.den;rw [h48] at h2;have h3 : nd [48] = 0 := rfl;omega)
   rw [et, ed, ← hz, LI, C9] at this;exact this
  ·omega
end
abbrev rbx (xs : List Nat) (b : Bool) : Ent := ⟨76, none, [.b (.it (bI xs)), .o b]⟩
def rst (xs : List Nat) (u e : Nat) : List Nat := if e = 0 then xs.drop u else []
def bdd (bad : Bool) (e : Nat) : Bool := bad || !decide (e = 0)
theorem Z2 {xs : List Nat} (h : B8 xs) (u e : Nat) : B8 (rst xs u e) := by unfold rst; split; exact h.drop u; exact fun x hx => by cases hx
section
variable {I : WInv} {c : Bool} {k : Nat}
theorem QC (xs : List Nat) (bad : Bool) (u e : Nat) (h : e = 0 → u ≤ xs.length) : SpM Tryz.prog I 97 [(0, some (rbx xs bad))] [.one (.ptr 0 0), ci (u : Int), ci (e : Int)] [(0, some (rbx (rst xs u e) (bdd bad e)))] (.tu []) := by
 unfold rst bdd;by_cases h0 : e = 0
 ·subst h0
  have hu := h rfl;rw [if_pos rfl, show (bad || !decide (0 = 0)) = bad by simp]
  exact sm 23 [pk (As 32 ((0 : Nat) : Int) 0), pk (J3 xs u _ rfl hu)]
 ·rw [if_neg h0, show (bad || !decide (e = 0)) = true by simp [h0]]
  exact sm 23 [pk (AO 32 (e : Int) 0), ⟨.upd [.b (.it (slI 1 ((xs).map (Af)))), .o bad] 1 [.o true] [.b (.it (slI 1 ((xs).map (Af)))), .o true], rfl⟩, ⟨.upd [.b (.it (slI 1 ((xs).map (Af)))), .o true] 0 [.z] [.z, .o true], rfl⟩, pm ((show Leads I _ ⟨[], [(0, some ⟨76, none, [.z, .o true]⟩)], 13⟩ ⟨[], [(0, some (rbx [] true))], 13⟩ from AK [] trivial ⟨rfl, rfl, rfl, ILe.cons NZ ILe.refl, trivial⟩))]
theorem Xu {xs : List Nat} (hx : B8 xs) (bad : Bool) : SpM Tryz.prog I 47 [(0, some (rbx xs bad))] [.one (.ptr 0 0)] [(0, some (rbx (rst xs (Bk xs).2.1 (Bk xs).2.2) (bdd bad (Bk xs).2.2)))] (li ((Bk xs).1 : Nat)) := by
 have hd := Aaj (I := I) hx;have ht := QC (I := I) xs bad (Bk xs).2.1 (Bk xs).2.2 (fun h => (GD xs h).2.2.1)
 generalize Bk xs = r at *;exact sm 20 [po (hd), pom [0] (ht)]
theorem Yp (xs : List Nat) (h : (ET xs).2.2 = 0) : (ET xs).2.1 ≤ xs.length := by
 unfold ET at h ⊢;split at h
 ·rename_i h1; rw [if_pos h1]; exact (GD xs h1).2.2.1
 ·rename_i h1; exact absurd h h1
theorem Wv (xs : List Nat) (h : (CJ xs).2.2 = 0) : (CJ xs).2.1 ≤ xs.length := by
 unfold CJ at h ⊢;have := GD xs;generalize Bk xs = r at *;obtain ⟨a, b, e⟩ := r;simp only at *;by_cases h1 : e = 0
 ·have h9 := this h1
  subst h1;by_cases h2 : 20000 < a
  ·simp [h2] at h
  ·by_cases h3 : xs.length - b < a
   ·simp [h2, h3] at h
   ·simp [h2, h3]; omega
 ·simp [h1] at h
theorem Vc {xs : List Nat} (hx : B8 xs) (bad : Bool) : SpM Tryz.prog I 51 [(0, some (rbx xs bad))] [.one (.ptr 0 0)] [(0, some (rbx (rst xs (ET xs).2.1 (ET xs).2.2) (bdd bad (ET xs).2.2)))] (li (ET xs).1) := by
 have hd := Aal (I := I) hx;have ht := QC (I := I) xs bad (ET xs).2.1 (ET xs).2.2 (Yp xs);generalize ET xs = r at *;exact sm 20 [po (hd), pom [0] (ht)]
theorem RR {xs : List Nat} (hx : B8 xs) (bad : Bool) : SpM Tryz.prog I 50 [(0, some (rbx xs bad))] [.one (.ptr 0 0)] [(0, some (rbx (rst xs (CJ xs).2.1 (CJ xs).2.2) (bdd bad (CJ xs).2.2)))] (tS (CJ xs).1) := by
 have hd := Aak (I := I) hx;have ht := QC (I := I) xs bad (CJ xs).2.1 (CJ xs).2.2 (Wv xs);generalize CJ xs = r at *;exact sm 20 [po (hd), pom [0] (ht)]
theorem CV (xs : List Nat) (bad b : Bool) (h : (!bad && decide (xs.length = 0)) = b) : SpM Tryz.prog I 52 [(0, some (rbx xs bad))] [.one (.ptr 0 0)] [(0, some (rbx xs bad))] (lb b) := by
 cases bad with
 | true =>
  subst h;exact sm 16 [pa]
 | false =>
  by_cases h0 : xs.length = 0
  ·rw [decide_eq_true h0] at h; subst h
   exact sm 16 [pa, pk (AY 31 5 3 1 ((xs).map (Af)) ((xs).length : Int)), pk (Am 3 ((xs).length : Int) 0)]
  ·rw [decide_eq_false h0] at h; subst h
   exact sm 16 [pa, pk (AY 31 5 3 1 ((xs).map (Af)) ((xs).length : Int)), pk (Ae 3 ((xs).length : Int) 0)]
theorem Sx {xs ys : List Nat} (b : Bool) (h : decide (xs = ys) = b) (hx : B8 xs) (hy : B8 ys) : Sp Tryz.prog I 53 [.t (bI xs), .t (bI ys)] (lb b) :=
 sr 10 [pk (O1 xs), pk (O1 ys), pk (UG 9 xs ys b h hx hy)]
end
abbrev chZ : CT := .ag [.i 0, .i 0, .o false, .z, .o false, .z, .i 0, .i 0, .i 0]
theorem Yj {bs r1 r2 : List Nat} {d1 d2 : Bool} {k n : Int} (hU1 : SpM Tryz.prog At 47 [(0, some (rbx bs false))] [.one (.ptr 0 0)] [(0, some (rbx r1 d1))] (li k)) (hU2 : SpM Tryz.prog At 47 [(0, some (rbx r1 d1))] [.one (.ptr 0 0)] [(0, some (rbx r2 d2))] (li n)) (hF : Sp Tryz.prog At 48 [ci 0, ci 1] (.tu [fc true 84 0, ci 0])) {r3 s : List Nat} {d3 : Bool} (hk : k = 1) (hT : SpM Tryz.prog At 50 [(0, some (rbx r2 d2))] [.one (.ptr 0 0)] [(0, some (rbx r3 d3))] (tS s)) {e : Int} (he : e ≠ 0) (hP : Sp Tryz.prog At 49 [cS s] (.tu [frz, ci e])) : Sp Tryz.prog At 16 [.t (bI bs)] (.tu [chZ, ci 2]) :=
 sr 62 [pom [4] (hU1), pom [4] (hU2), po (hF), pk (Am 3 k 1), pom [4] (hT), po (hP), pk (AO 32 e 0)]
theorem Wl {bs r1 r2 : List Nat} {d1 d2 : Bool} {k n : Int} (hU1 : SpM Tryz.prog At 47 [(0, some (rbx bs false))] [.one (.ptr 0 0)] [(0, some (rbx r1 d1))] (li k)) (hU2 : SpM Tryz.prog At 47 [(0, some (rbx r1 d1))] [.one (.ptr 0 0)] [(0, some (rbx r2 d2))] (li n)) (hF : Sp Tryz.prog At 48 [ci 0, ci 1] (.tu [fc true 84 0, ci 0])) {r3 s : List Nat} {d3 : Bool} (hk : k = 1) (hT : SpM Tryz.prog At 50 [(0, some (rbx r2 d2))] [.one (.ptr 0 0)] [(0, some (rbx r3 d3))] (tS s)) {q : Rat} (hP : Sp Tryz.prog At 49 [cS s] (.tu [fc true 84 q, ci 0])) (hD : SpM Tryz.prog At 52 [(0, some (rbx r3 d3))] [.one (.ptr 0 0)] [(0, some (rbx r3 d3))] (lb false)) : Sp Tryz.prog At 16 [.t (bI bs)] (.tu [chZ, ci 2]) :=
 sr 62 [pom [4] (hU1), pom [4] (hU2), po (hF), pk (Am 3 k 1), pom [4] (hT), po (hP), pa, pom [4] (hD), pa]
theorem Wk {bs r1 r2 : List Nat} {d1 d2 : Bool} {k n : Int} (hU1 : SpM Tryz.prog At 47 [(0, some (rbx bs false))] [.one (.ptr 0 0)] [(0, some (rbx r1 d1))] (li k)) (hU2 : SpM Tryz.prog At 47 [(0, some (rbx r1 d1))] [.one (.ptr 0 0)] [(0, some (rbx r2 d2))] (li n)) (hF : Sp Tryz.prog At 48 [ci 0, ci 1] (.tu [fc true 84 0, ci 0])) {r3 s : List Nat} {d3 : Bool} (hk : k = 1) (hT : SpM Tryz.prog At 50 [(0, some (rbx r2 d2))] [.one (.ptr 0 0)] [(0, some (rbx r3 d3))] (tS s)) {q : Rat} (hP : Sp Tryz.prog At 49 [cS s] (.tu [fc true 84 q, ci 0])) (hD : SpM Tryz.prog At 52 [(0, some (rbx r3 d3))] [.one (.ptr 0 0)] [(0, some (rbx r3 d3))] (lb true)) {c : List Nat} {e : Int} (he : e ≠ 0) (hE : Sp Tryz.prog At 13 [chK true 84 ⟨k, n, q, 0, 0, 0⟩] (.tu [.t (bI c), ci e])) : Sp Tryz.prog At 16 [.t (bI bs)] (.tu [chZ, ci 2]) :=
 sr 62 [pom [4] (hU1), pom [4] (hU2), po (hF), pk (Am 3 k 1), pom [4] (hT), po (hP), pa, pom [4] (hD), pa, po (hE), pk (AO 32 e 0)]
theorem Wj {bs r1 r2 : List Nat} {d1 d2 : Bool} {k n : Int} (hU1 : SpM Tryz.prog At 47 [(0, some (rbx bs false))] [.one (.ptr 0 0)] [(0, some (rbx r1 d1))] (li k)) (hU2 : SpM Tryz.prog At 47 [(0, some (rbx r1 d1))] [.one (.ptr 0 0)] [(0, some (rbx r2 d2))] (li n)) (hF : Sp Tryz.prog At 48 [ci 0, ci 1] (.tu [fc true 84 0, ci 0])) {r3 s : List Nat} {d3 : Bool} (hk : k = 1) (hT : SpM Tryz.prog At 50 [(0, some (rbx r2 d2))] [.one (.ptr 0 0)] [(0, some (rbx r3 d3))] (tS s)) {q : Rat} (hP : Sp Tryz.prog At 49 [cS s] (.tu [fc true 84 q, ci 0])) (hD : SpM Tryz.prog At 52 [(0, some (rbx r3 d3))] [.one (.ptr 0 0)] [(0, some (rbx r3 d3))] (lb true)) {c : List Nat} (hE : Sp Tryz.prog At 13 [chK true 84 ⟨k, n, q, 0, 0, 0⟩] (.tu [.t (bI c), ci 0])) (hQ : Sp Tryz.prog At 53 [.t (bI c), .t (bI bs)] (lb false)) : Sp Tryz.prog At 16 [.t (bI bs)] (.tu [chZ, ci 2]) :=
 sr 62 [pom [4] (hU1), pom [4] (hU2), po (hF), pk (Am 3 k 1), pom [4] (hT), po (hP), pa, pom [4] (hD), pa, po (hE), pa, po (hQ), pa]
theorem Wi {bs r1 r2 : List Nat} {d1 d2 : Bool} {k n : Int} (hU1 : SpM Tryz.prog At 47 [(0, some (rbx bs false))] [.one (.ptr 0 0)] [(0, some (rbx r1 d1))] (li k)) (hU2 : SpM Tryz.prog At 47 [(0, some (rbx r1 d1))] [.one (.ptr 0 0)] [(0, some (rbx r2 d2))] (li n)) (hF : Sp Tryz.prog At 48 [ci 0, ci 1] (.tu [fc true 84 0, ci 0])) {r3 s : List Nat} {d3 : Bool} (hk : k = 1) (hT : SpM Tryz.prog At 50 [(0, some (rbx r2 d2))] [.one (.ptr 0 0)] [(0, some (rbx r3 d3))] (tS s)) {q : Rat} (hP : Sp Tryz.prog At 49 [cS s] (.tu [fc true 84 q, ci 0])) (hD : SpM Tryz.prog At 52 [(0, some (rbx r3 d3))] [.one (.ptr 0 0)] [(0, some (rbx r3 d3))] (lb true)) {c : List Nat} (hE : Sp Tryz.prog At 13 [chK true 84 ⟨k, n, q, 0, 0, 0⟩] (.tu [.t (bI c), ci 0])) (hQ : Sp Tryz.prog At 53 [.t (bI c), .t (bI bs)] (lb true)) : Sp Tryz.prog At 16 [.t (bI bs)] (.tu [chK true 84 ⟨k, n, q, 0, 0, 0⟩, ci 0]) :=
 sr 62 [pom [4] (hU1), pom [4] (hU2), po (hF), pk (Am 3 k 1), pom [4] (hT), po (hP), pa, pom [4] (hD), pa, po (hE), pa, po (hQ), pa]
theorem Wh {bs r1 r2 : List Nat} {d1 d2 : Bool} {k n : Int} (hU1 : SpM Tryz.prog At 47 [(0, some (rbx bs false))] [.one (.ptr 0 0)] [(0, some (rbx r1 d1))] (li k)) (hU2 : SpM Tryz.prog At 47 [(0, some (rbx r1 d1))] [.one (.ptr 0 0)] [(0, some (rbx r2 d2))] (li n)) (hF : Sp Tryz.prog At 48 [ci 0, ci 1] (.tu [fc true 84 0, ci 0])) {r3 r4 : List Nat} {d3 d4 : Bool} {a b : Int} (hk : k = 2) (hU3 : SpM Tryz.prog At 47 [(0, some (rbx r2 d2))] [.one (.ptr 0 0)] [(0, some (rbx r3 d3))] (li a)) (hU4 : SpM Tryz.prog At 47 [(0, some (rbx r3 d3))] [.one (.ptr 0 0)] [(0, some (rbx r4 d4))] (li b)) (hD : SpM Tryz.prog At 52 [(0, some (rbx r4 d4))] [.one (.ptr 0 0)] [(0, some (rbx r4 d4))] (lb false)) : Sp Tryz.prog At 16 [.t (bI bs)] (.tu [chZ, ci 2]) :=
 sr 62 [pom [4] (hU1), pom [4] (hU2), po (hF), pk (Ae 3 k 1), pk (Am 3 k 2), pom [4] (hU3), pom [4] (hU4), pom [4] (hD), pa]
theorem Wg {bs r1 r2 : List Nat} {d1 d2 : Bool} {k n : Int} (hU1 : SpM Tryz.prog At 47 [(0, some (rbx bs false))] [.one (.ptr 0 0)] [(0, some (rbx r1 d1))] (li k)) (hU2 : SpM Tryz.prog At 47 [(0, some (rbx r1 d1))] [.one (.ptr 0 0)] [(0, some (rbx r2 d2))] (li n)) (hF : Sp Tryz.prog At 48 [ci 0, ci 1] (.tu [fc true 84 0, ci 0])) {r3 r4 : List Nat} {d3 d4 : Bool} {a b : Int} (hk : k = 2) (hU3 : SpM Tryz.prog At 47 [(0, some (rbx r2 d2))] [.one (.ptr 0 0)] [(0, some (rbx r3 d3))] (li a)) (hU4 : SpM Tryz.prog At 47 [(0, some (rbx r3 d3))] [.one (.ptr 0 0)] [(0, some (rbx r4 d4))] (li b)) (hD : SpM Tryz.prog At 52 [(0, some (rbx r4 d4))] [.one (.ptr 0 0)] [(0, some (rbx r4 d4))] (lb true)) {c : List Nat} {e : Int} (he : e ≠ 0) (hE : Sp Tryz.prog At 13 [chK true 84 ⟨k, n, 0, a, b, 0⟩] (.tu [.t (bI c), ci e])) : Sp Tryz.prog At 16 [.t (bI bs)] (.tu [chZ, ci 2]) :=
 sr 62 [pom [4] (hU1), pom [4] (hU2), po (hF), pk (Ae 3 k 1), pk (Am 3 k 2), pom [4] (hU3), pom [4] (hU4), pom [4] (hD), pa, po (hE), pk (AO 32 e 0)]
theorem Wf {bs r1 r2 : List Nat} {d1 d2 : Bool} {k n : Int} (hU1 : SpM Tryz.prog At 47 [(0, some (rbx bs false))] [.one (.ptr 0 0)] [(0, some (rbx r1 d1))] (li k)) (hU2 : SpM Tryz.prog At 47 [(0, some (rbx r1 d1))] [.one (.ptr 0 0)] [(0, some (rbx r2 d2))] (li n)) (hF : Sp Tryz.prog At 48 [ci 0, ci 1] (.tu [fc true 84 0, ci 0])) {r3 r4 : List Nat} {d3 d4 : Bool} {a b : Int} (hk : k = 2) (hU3 : SpM Tryz.prog At 47 [(0, some (rbx r2 d2))] [.one (.ptr 0 0)] [(0, some (rbx r3 d3))] (li a)) (hU4 : SpM Tryz.prog At 47 [(0, some (rbx r3 d3))] [.one (.ptr 0 0)] [(0, some (rbx r4 d4))] (li b)) (hD : SpM Tryz.prog At 52 [(0, some (rbx r4 d4))] [.one (.ptr 0 0)] [(0, some (rbx r4 d4))] (lb true)) {c : List Nat} (hE : Sp Tryz.prog At 13 [chK true 84 ⟨k, n, 0, a, b, 0⟩] (.tu [.t (bI c), ci 0])) (hQ : Sp Tryz.prog At 53 [.t (bI c), .t (bI bs)] (lb false)) : Sp Tryz.prog At 16 [.t (bI bs)] (.tu [chZ, ci 2]) :=
 sr 62 [pom [4] (hU1), pom [4] (hU2), po (hF), pk (Ae 3 k 1), pk (Am 3 k 2), pom [4] (hU3), pom [4] (hU4), pom [4] (hD), pa, po (hE), pa, po (hQ), pa]
theorem We {bs r1 r2 : List Nat} {d1 d2 : Bool} {k n : Int} (hU1 : SpM Tryz.prog At 47 [(0, some (rbx bs false))] [.one (.ptr 0 0)] [(0, some (rbx r1 d1))] (li k)) (hU2 : SpM Tryz.prog At 47 [(0, some (rbx r1 d1))] [.one (.ptr 0 0)] [(0, some (rbx r2 d2))] (li n)) (hF : Sp Tryz.prog At 48 [ci 0, ci 1] (.tu [fc true 84 0, ci 0])) {r3 r4 : List Nat} {d3 d4 : Bool} {a b : Int} (hk : k = 2) (hU3 : SpM Tryz.prog At 47 [(0, some (rbx r2 d2))] [.one (.ptr 0 0)] [(0, some (rbx r3 d3))] (li a)) (hU4 : SpM Tryz.prog At 47 [(0, some (rbx r3 d3))] [.one (.ptr 0 0)] [(0, some (rbx r4 d4))] (li b)) (hD : SpM Tryz.prog At 52 [(0, some (rbx r4 d4))] [.one (.ptr 0 0)] [(0, some (rbx r4 d4))] (lb true)) {c : List Nat} (hE : Sp Tryz.prog At 13 [chK true 84 ⟨k, n, 0, a, b, 0⟩] (.tu [.t (bI c), ci 0])) (hQ : Sp Tryz.prog At 53 [.t (bI c), .t (bI bs)] (lb true)) : Sp Tryz.prog At 16 [.t (bI bs)] (.tu [chK true 84 ⟨k, n, 0, a, b, 0⟩, ci 0]) :=
 sr 62 [pom [4] (hU1), pom [4] (hU2), po (hF), pk (Ae 3 k 1), pk (Am 3 k 2), pom [4] (hU3), pom [4] (hU4), pom [4] (hD), pa, po (hE), pa, po (hQ), pa]
theorem Wd {bs r1 r2 : List Nat} {d1 d2 : Bool} {k n : Int} (hU1 : SpM Tryz.prog At 47 [(0, some (rbx bs false))] [.one (.ptr 0 0)] [(0, some (rbx r1 d1))] (li k)) (hU2 : SpM Tryz.prog At 47 [(0, some (rbx r1 d1))] [.one (.ptr 0 0)] [(0, some (rbx r2 d2))] (li n)) (hF : Sp Tryz.prog At 48 [ci 0, ci 1] (.tu [fc true 84 0, ci 0])) {r3 : List Nat} {d3 : Bool} {z : Int} (hk : k = 3) (hI : SpM Tryz.prog At 51 [(0, some (rbx r2 d2))] [.one (.ptr 0 0)] [(0, some (rbx r3 d3))] (li z)) (hD : SpM Tryz.prog At 52 [(0, some (rbx r3 d3))] [.one (.ptr 0 0)] [(0, some (rbx r3 d3))] (lb false)) : Sp Tryz.prog At 16 [.t (bI bs)] (.tu [chZ, ci 2]) :=
 sr 62 [pom [4] (hU1), pom [4] (hU2), po (hF), pk (Ae 3 k 1), pk (Ae 3 k 2), pk (Am 3 k 3), pom [4] (hI), pom [4] (hD), pa]
theorem Wc {bs r1 r2 : List Nat} {d1 d2 : Bool} {k n : Int} (hU1 : SpM Tryz.prog At 47 [(0, some (rbx bs false))] [.one (.ptr 0 0)] [(0, some (rbx r1 d1))] (li k)) (hU2 : SpM Tryz.prog At 47 [(0, some (rbx r1 d1))] [.one (.ptr 0 0)] [(0, some (rbx r2 d2))] (li n)) (hF : Sp Tryz.prog At 48 [ci 0, ci 1] (.tu [fc true 84 0, ci 0])) {r3 : List Nat} {d3 : Bool} {z : Int} (hk : k = 3) (hI : SpM Tryz.prog At 51 [(0, some (rbx r2 d2))] [.one (.ptr 0 0)] [(0, some (rbx r3 d3))] (li z)) (hD : SpM Tryz.prog At 52 [(0, some (rbx r3 d3))] [.one (.ptr 0 0)] [(0, some (rbx r3 d3))] (lb true)) {c : List Nat} {e : Int} (he : e ≠ 0) (hE : Sp Tryz.prog At 13 [chK true 84 ⟨k, n, 0, 0, 0, z⟩] (.tu [.t (bI c), ci e])) : Sp Tryz.prog At 16 [.t (bI bs)] (.tu [chZ, ci 2]) :=
 sr 62 [pom [4] (hU1), pom [4] (hU2), po (hF), pk (Ae 3 k 1), pk (Ae 3 k 2), pk (Am 3 k 3), pom [4] (hI), pom [4] (hD), pa, po (hE), pk (AO 32 e 0)]
theorem Wb {bs r1 r2 : List Nat} {d1 d2 : Bool} {k n : Int} (hU1 : SpM Tryz.prog At 47 [(0, some (rbx bs false))] [.one (.ptr 0 0)] [(0, some (rbx r1 d1))] (li k)) (hU2 : SpM Tryz.prog At 47 [(0, some (rbx r1 d1))] [.one (.ptr 0 0)] [(0, some (rbx r2 d2))] (li n)) (hF : Sp Tryz.prog At 48 [ci 0, ci 1] (.tu [fc true 84 0, ci 0])) {r3 : List Nat} {d3 : Bool} {z : Int} (hk : k = 3) (hI : SpM Tryz.prog At 51 [(0, some (rbx r2 d2))] [.one (.ptr 0 0)] [(0, some (rbx r3 d3))] (li z)) (hD : SpM Tryz.prog At 52 [(0, some (rbx r3 d3))] [.one (.ptr 0 0)] [(0, some (rbx r3 d3))] (lb true)) {c : List Nat} (hE : Sp Tryz.prog At 13 [chK true 84 ⟨k, n, 0, 0, 0, z⟩] (.tu [.t (bI c), ci 0])) (hQ : Sp Tryz.prog At 53 [.t (bI c), .t (bI bs)] (lb false)) : Sp Tryz.prog At 16 [.t (bI bs)] (.tu [chZ, ci 2]) :=
 sr 62 [pom [4] (hU1), pom [4] (hU2), po (hF), pk (Ae 3 k 1), pk (Ae 3 k 2), pk (Am 3 k 3), pom [4] (hI), pom [4] (hD), pa, po (hE), pa, po (hQ), pa]
theorem Wa {bs r1 r2 : List Nat} {d1 d2 : Bool} {k n : Int} (hU1 : SpM Tryz.prog At 47 [(0, some (rbx bs false))] [.one (.ptr 0 0)] [(0, some (rbx r1 d1))] (li k)) (hU2 : SpM Tryz.prog At 47 [(0, some (rbx r1 d1))] [.one (.ptr 0 0)] [(0, some (rbx r2 d2))] (li n)) (hF : Sp Tryz.prog At 48 [ci 0, ci 1] (.tu [fc true 84 0, ci 0])) {r3 : List Nat} {d3 : Bool} {z : Int} (hk : k = 3) (hI : SpM Tryz.prog At 51 [(0, some (rbx r2 d2))] [.one (.ptr 0 0)] [(0, some (rbx r3 d3))] (li z)) (hD : SpM Tryz.prog At 52 [(0, some (rbx r3 d3))] [.one (.ptr 0 0)] [(0, some (rbx r3 d3))] (lb true)) {c : List Nat} (hE : Sp Tryz.prog At 13 [chK true 84 ⟨k, n, 0, 0, 0, z⟩] (.tu [.t (bI c), ci 0])) (hQ : Sp Tryz.prog At 53 [.t (bI c), .t (bI bs)] (lb true)) : Sp Tryz.prog At 16 [.t (bI bs)] (.tu [chK true 84 ⟨k, n, 0, 0, 0, z⟩, ci 0]) :=
 sr 62 [pom [4] (hU1), pom [4] (hU2), po (hF), pk (Ae 3 k 1), pk (Ae 3 k 2), pk (Am 3 k 3), pom [4] (hI), pom [4] (hD), pa, po (hE), pa, po (hQ), pa]
theorem Wo {bs r1 r2 : List Nat} {d1 d2 : Bool} {k n : Int} (hU1 : SpM Tryz.prog At 47 [(0, some (rbx bs false))] [.one (.ptr 0 0)] [(0, some (rbx r1 d1))] (li k)) (hU2 : SpM Tryz.prog At 47 [(0, some (rbx r1 d1))] [.one (.ptr 0 0)] [(0, some (rbx r2 d2))] (li n)) (hF : Sp Tryz.prog At 48 [ci 0, ci 1] (.tu [fc true 84 0, ci 0])) (h1 : k ≠ 1) (h2 : k ≠ 2) (h3 : k ≠ 3) (hD : SpM Tryz.prog At 52 [(0, some (rbx r2 d2))] [.one (.ptr 0 0)] [(0, some (rbx r2 d2))] (lb false)) : Sp Tryz.prog At 16 [.t (bI bs)] (.tu [chZ, ci 2]) :=
 sr 62 [pom [4] (hU1), pom [4] (hU2), po (hF), pk (Ae 3 k 1), pk (Ae 3 k 2), pk (Ae 3 k 3), pom [4] (hD), pa]
theorem Wn {bs r1 r2 : List Nat} {d1 d2 : Bool} {k n : Int} (hU1 : SpM Tryz.prog At 47 [(0, some (rbx bs false))] [.one (.ptr 0 0)] [(0, some (rbx r1 d1))] (li k)) (hU2 : SpM Tryz.prog At 47 [(0, some (rbx r1 d1))] [.one (.ptr 0 0)] [(0, some (rbx r2 d2))] (li n)) (hF : Sp Tryz.prog At 48 [ci 0, ci 1] (.tu [fc true 84 0, ci 0])) (h1 : k ≠ 1) (h2 : k ≠ 2) (h3 : k ≠ 3) (hD : SpM Tryz.prog At 52 [(0, some (rbx r2 d2))] [.one (.ptr 0 0)] [(0, some (rbx r2 d2))] (lb true)) {c : List Nat} {e : Int} (he : e ≠ 0) (hE : Sp Tryz.prog At 13 [chK true 84 ⟨k, n, 0, 0, 0, 0⟩] (.tu [.t (bI c), ci e])) : Sp Tryz.prog At 16 [.t (bI bs)] (.tu [chZ, ci 2]) :=
 sr 62 [pom [4] (hU1), pom [4] (hU2), po (hF), pk (Ae 3 k 1), pk (Ae 3 k 2), pk (Ae 3 k 3), pom [4] (hD), pa, po (hE), pk (AO 32 e 0)]
theorem Wm {bs r1 r2 : List Nat} {d1 d2 : Bool} {k n : Int} (hU1 : SpM Tryz.prog At 47 [(0, some (rbx bs false))] [.one (.ptr 0 0)] [(0, some (rbx r1 d1))] (li k)) (hU2 : SpM Tryz.prog At 47 [(0, some (rbx r1 d1))] [.one (.ptr 0 0)] [(0, some (rbx r2 d2))] (li n)) (hF : Sp Tryz.prog At 48 [ci 0, ci 1] (.tu [fc true 84 0, ci 0])) (h1 : k ≠ 1) (h2 : k ≠ 2) (h3 : k ≠ 3) (hD : SpM Tryz.prog At 52 [(0, some (rbx r2 d2))] [.one (.ptr 0 0)] [(0, some (rbx r2 d2))] (lb true)) {c : List Nat} (hE : Sp Tryz.prog At 13 [chK true 84 ⟨k, n, 0, 0, 0, 0⟩] (.tu [.t (bI c), ci 0])) (hQ : Sp Tryz.prog At 53 [.t (bI c), .t (bI bs)] (lb false)) : Sp Tryz.prog At 16 [.t (bI bs)] (.tu [chZ, ci 2]) :=
 sr 62 [pom [4] (hU1), pom [4] (hU2), po (hF), pk (Ae 3 k 1), pk (Ae 3 k 2), pk (Ae 3 k 3), pom [4] (hD), pa, po (hE), pa, po (hQ), pa]
theorem LU {z : Int} (h : (CG z).length ≤ 800) : Lim 84 z := by
 have h1 : (dec z.natAbs).length ≤ 800 := by
  unfold CG Df at h;rw [List.length_append] at h;omega
 have h2 := Dk (Qg z.natAbs).2.1 h1;rw [LI] at h2;unfold Lim at h2 ⊢
 simpa using h2
theorem Yb {q : Rat} (h : (BZ q).length ≤ 400) : Lq q 84 := by
 unfold BZ at h;split at h
 ·rename_i h1
  exact ⟨LU (by omega), by rw [h1]; exact EG (by omega), by omega⟩
 ·simp only [List.length_append] at h
  exact ⟨LU (by omega), LU (by omega), by omega⟩
theorem PU {q : Rat} {e : Int} (h : Lq q 84) {f : FuncId} {args : List CT} {I : WInv} (hs : Sp Tryz.prog I f args (.tu [frc q, ci e])) : Sp Tryz.prog I f args (.tu [fc true 84 q, ci e]) := hs.rs (OF ⟨JV h, CTle.refl, trivial⟩)
theorem QR {xs : List Nat} (hx : B8 xs) : (∃ q : Rat, Sp Tryz.prog At 49 [cS xs] (.tu [fc true 84 q, ci 0])) ∨ (∃ e : Int, e ≠ 0 ∧ Sp Tryz.prog At 49 [cS xs] (.tu [frz, ci e])) := by
 by_cases hl : xs.length ≤ 400
 ·cases hi : Ds 47 xs with
  | some i =>
   by_cases h : CD (BK (xs.take i)) (AZ (xs.take i)) ∧ GM (xs.drop (i + 1)) ∧ xs.drop (i + 1) ≠ [48]
   ·have l1 : (xs.take i).length ≤ 400 := by rw [List.length_take]; omega
    have l2 : (xs.drop (i + 1)).length ≤ 400 := by rw [List.length_drop]; omega
    have l3 := CF (xs.take i);exact .inl ⟨_, PU ⟨FC ((Dk h.1.1.2.1 (by omega)).sgn _), GA (Dk h.2.1.2.1 (by omega)) (by omega), by omega⟩ (Jc hx hl hi h.1 h.2.1 h.2.2)⟩
   ·exact .inr ⟨1, by omega, Pe hx hl hi h⟩
  | none =>
   cases hj : Ds 46 xs with
   | some j =>
    have hlt := (Ng hj).1;have l1 : (xs.take j).length = j := by rw [List.length_take]; omega
    have l2 : (xs.drop (j + 1)).length = xs.length - (j + 1) := List.length_drop;have l3 := CF (xs.take j);by_cases h : GM (AZ (xs.take j)) ∧ xs.drop (j + 1) ≠ [] ∧ okD (xs.drop (j + 1))
    ·exact .inl ⟨_, PU ⟨FC ((Dk (h.1.2.1.app h.2.2) (by rw [List.length_append]; omega)).sgn _), GA (RH (by omega)) (by omega), by omega⟩ (LA hx hl hi hj (.inl ⟨_, rfl⟩) (XB (hx.take j) (by omega) h.1 h.2.1 h.2.2))⟩
    ·exact .inr ⟨1, by omega, LA hx hl hi hj (.inr rfl) (ZC (hx.take j) (hx.drop (j + 1)) (by omega) (by omega) h)⟩
   | none =>
    have l3 := CF xs;by_cases h : CD (BK xs) (AZ xs)
    ·exact .inl ⟨_, PU (Lq.int ((Dk h.1.2.1 (by omega)).sgn _) (by omega)) (L9 hx hl hi hj h)⟩
    ·exact .inr ⟨1, by omega, Pg hx hl hi hj h⟩
 ·exact .inr ⟨10, by omega, Pf (by omega)⟩
theorem Bq : Sp Tryz.prog At 48 [ci 0, ci 1] (.tu [fc true 84 0, ci 0]) := by
 have := PR (I := At) (a := 0) (b := 1) ⟨by omega, by omega⟩ ⟨by omega, by omega⟩ (by omega)
 rw [show Rat.divInt 0 1 = 0 by rfl] at this
 exact PU ⟨Gj 84, EG (by omega), by omega⟩ this
def rU (xs : List Nat) : List Nat := rst xs (Bk xs).2.1 (Bk xs).2.2
def eU (xs : List Nat) : Nat := (Bk xs).2.2
theorem FZ {n : Nat} {r : List Nat} (h : n ≤ 4611686018427387904) : (Bk (Aa n ++ r)).1 = n ∧ eU (Aa n ++ r) = 0 ∧ rU (Aa n ++ r) = r := by
 unfold eU rU;rw [Jv n r h];exact ⟨rfl, rfl, by simp [rst]⟩
theorem Kp {xs : List Nat} (h : B8 xs) : B8 (rU xs) := Z2 h _ _
theorem Pc {q : Rat} (h : q.num.sign = 0) : q = 0 := by
 have h1 : q.num = 0 := Int.sign_eq_zero_iff_zero.1 h;have := C9 q;rw [h1, Rat.zero_divInt] at this;exact this.symm
theorem Oi {x : Ch} {b : List Nat} (h : Bl x = (b, 0)) : ∃ n : Nat, n ≤ 1099511627776 ∧ x.node = (n : Int) ∧ ((x = ⟨1, n, x.q, 0, 0, 0⟩ ∧ (BZ x.q).length ≤ 400 ∧ b = Aa 1 ++ (Aa n ++ (Aa (BZ x.q).length ++ BZ x.q))) ∨ (∃ a c : Nat, a ≤ 1099511627776 ∧ c ≤ 1099511627776 ∧ x = ⟨2, n, 0, a, c, 0⟩ ∧ b = Aa 2 ++ (Aa n ++ (Aa a ++ Aa c))) ∨ (x = ⟨3, n, 0, 0, 0, x.cost⟩ ∧ BL x.cost = true ∧ b = Aa 3 ++ (Aa n ++ Aa (zig x.cost)))) := by
 unfold Bl at h;split at h
 ·cases h
 ·rename_i hw
  simp only [Bool.not_eq_false] at hw;split at h
  ·cases h
  ·rename_i hl
   injection h with h;obtain ⟨n, hn, e1, hc⟩ := KW hw;obtain ⟨kind, node, q, fst, nxt, cost⟩ := x;simp only at *;subst e1;refine ⟨n, hn, rfl, ?_⟩;rcases hc with ⟨rfl, rfl, rfl, rfl⟩ | ⟨rfl, hs, rfl, a, c, ha, hc, rfl, rfl⟩ | ⟨rfl, hs, rfl, rfl, rfl, hz⟩
   ·exact .inl ⟨rfl, by omega, by rw [← h]; simp [Nb]⟩
   ·rw [Pc hs] at h ⊢
    exact .inr (.inl ⟨a, c, ha, hc, rfl, by rw [← h]; simp [Nb]⟩)
   ·rw [Pc hs] at h ⊢
    exact .inr (.inr ⟨rfl, hz, by rw [← h]; simp [Nb]⟩)
theorem DC {n : Nat} (h : n ≤ 4611686018427387904) : B8 (Aa n) := Mb h
theorem Jk (x : Ch) : B8 (Bl x).1 := by
 by_cases h : (Bl x).2 = 0
 ·have e : Bl x = ((Bl x).1, 0) := by rw [← h]
  obtain ⟨n, hn, e1, h1 | ⟨a, c, ha, hc, e2, h2⟩ | ⟨e2, hz, h2⟩⟩ := Oi e
  ·rw [h1.2.2]; exact (DC (by omega)).app ((DC (by omega)).app ((DC (by omega)).app (KN _)))
  ·rw [h2]; exact (DC (by omega)).app ((DC (by omega)).app ((DC (by omega)).app (DC (by omega))))
  ·rw [h2]
   have hc := Do hz;exact (DC (by omega)).app ((DC (by omega)).app (DC (KU _ (by omega) (by omega))))
 ·intro y hy
  exfalso;unfold Bl at h hy;split at h
  ·rename_i h1; rw [if_pos h1] at hy; cases hy
  ·split at h
   ·rename_i h1 h2; rw [if_neg h1, if_pos h2] at hy; cases hy
   ·exact h rfl
theorem Gl (x : Ch) : (Bl x).1.length ≤ 500 := by
 by_cases h : (Bl x).2 = 0
 ·have e : Bl x = ((Bl x).1, 0) := by rw [← h]
  have l1 := AG (n := 1) (by omega)
  have l2 := AG (n := 2) (by omega)
  have l3 := AG (n := 3) (by omega)
  obtain ⟨n, hn, e1, h1 | ⟨a, c, ha, hc, e2, h2⟩ | ⟨e2, hz, h2⟩⟩ := Oi e
  ·have l4 := AG (n := n) (by omega)
   have l5 := AG (n := (BZ x.q).length) (by omega)
   rw [h1.2.2]; simp only [List.length_append]; omega
  ·have l4 := AG (n := n) (by omega)
   have l5 := AG (n := a) (by omega)
   have l6 := AG (n := c) (by omega)
   rw [h2]; simp only [List.length_append]; omega
  ·have hc := Do hz
   have l4 := AG (n := n) (by omega)
   have l5 := AG (KU x.cost (by omega) (by omega))
   rw [h2]; simp only [List.length_append]; omega
 ·unfold Bl at h ⊢
  split
  ·simp
  ·split
   ·simp
   ·rename_i h1 h2; rw [if_neg h1, if_neg h2] at h; exact absurd rfl h
theorem Zd (x : Ch) : Sp Tryz.prog At 13 [chK true 84 x] (.tu [.t (bI (Bl x).1), ci (Bl x).2]) := (VV x (by omega)).inv QD
theorem OR {xs : List Nat} (hx : B8 xs) (bad : Bool) : SpM Tryz.prog At 47 [(0, some (rbx xs bad))] [.one (.ptr 0 0)] [(0, some (rbx (rU xs) (bdd bad (eU xs))))] (li ((Bk xs).1 : Nat)) := Xu hx bad
theorem TP {y : Ch} {b : List Nat} (hy : Bl y = (b, 0)) : Sp Tryz.prog At 16 [.t (bI b)] (.tu [chK true 84 y, ci 0]) := by
 have hb : B8 b := by have := Jk y; rwa [hy] at this
 have hE := Zd y;rw [hy] at hE;have hQ := Sx (I := At) (xs := b) (ys := b) true (decide_eq_true rfl) hb hb;have hU1 := OR hb false;have hU2 := OR (Kp hb) (bdd false (eU b));have b2 := Kp (Kp hb);obtain ⟨n, hn, e1, ⟨ey, hl, h1⟩ | ⟨a, c, ha, hc, ey, h1⟩ | ⟨ey, hz, h1⟩⟩ := Oi hy
 ·obtain ⟨f1, f2, f3⟩ := FZ (n := 1) (r := Aa n ++ (Aa (BZ y.q).length ++ BZ y.q)) (by omega)
  obtain ⟨g1, g2, g3⟩ := FZ (n := n) (r := Aa (BZ y.q).length ++ BZ y.q) (by omega)
  rw [← h1] at f1 f2 f3;rw [f1, f2, f3] at hU1;rw [f2, f3, g1, g2, g3] at hU2;rw [f3, g3] at b2;have hT := RR (I := At) b2 (bdd (bdd false 0) 0);have hd := Ww (BZ y.q) [] (by omega)
  rw [List.append_nil] at hd;rw [hd] at hT;have er : rst (Aa (BZ y.q).length ++ BZ y.q) (Aa (BZ y.q).length ++ BZ y.q).length 0 = [] := by unfold rst; rw [if_pos rfl]; exact List.drop_eq_nil_of_le (Nat.le_refl _)
  have hT : SpM Tryz.prog At _ _ _ [(0, some (rbx (rst (Aa (BZ y.q).length ++ BZ y.q) (Aa (BZ y.q).length ++ BZ y.q).length 0) (bdd (bdd (bdd false 0) 0) 0)))] _ := hT;rw [er] at hT;rw [ey] at hE ⊢;exact Wi hU1 hU2 Bq rfl hT (PU (Yb hl) (QQ y.q hl)) (CV [] _ true rfl) hE hQ
 ·obtain ⟨f1, f2, f3⟩ := FZ (n := 2) (r := Aa n ++ (Aa a ++ Aa c)) (by omega)
  obtain ⟨g1, g2, g3⟩ := FZ (n := n) (r := Aa a ++ Aa c) (by omega)
  obtain ⟨k1, k2, k3⟩ := FZ (n := a) (r := Aa c) (by omega)
  obtain ⟨l1, l2, l3⟩ := FZ (n := c) (r := []) (by omega)
  rw [List.append_nil] at l1 l2 l3;rw [← h1] at f1 f2 f3;rw [f1, f2, f3] at hU1;rw [f2, f3, g1, g2, g3] at hU2;rw [f3, g3] at b2;have hU3 := OR b2 (bdd (bdd false 0) 0);have hU4 := OR (Kp b2) (bdd (bdd (bdd false 0) 0) (eU (Aa a ++ Aa c)));rw [k1, k2, k3] at hU3;rw [k2, k3, l1, l2, l3] at hU4;rw [ey] at hE ⊢;exact We hU1 hU2 Bq rfl hU3 hU4 (CV [] _ true rfl) hE hQ
 ·have hc := Do hz
  obtain ⟨f1, f2, f3⟩ := FZ (n := 3) (r := Aa n ++ Aa (zig y.cost)) (by omega)
  obtain ⟨g1, g2, g3⟩ := FZ (n := n) (r := Aa (zig y.cost)) (by omega)
  rw [← h1] at f1 f2 f3;rw [f1, f2, f3] at hU1;rw [f2, f3, g1, g2, g3] at hU2;rw [f3, g3] at b2;have hI := Vc (I := At) b2 (bdd (bdd false 0) 0);have hd := Wx y.cost [] (by omega) (by omega)
  rw [List.append_nil] at hd;rw [hd] at hI;have er : rst (Aa (zig y.cost)) (Aa (zig y.cost)).length 0 = [] := by unfold rst; rw [if_pos rfl]; exact List.drop_eq_nil_of_le (Nat.le_refl _)
  have hI : SpM Tryz.prog At _ _ _ [(0, some (rbx (rst (Aa (zig y.cost)) (Aa (zig y.cost)).length 0) (bdd (bdd (bdd false 0) 0) 0)))] _ := hI;rw [er] at hI;rw [ey] at hE ⊢;exact Wa hU1 hU2 Bq rfl hI (CV [] _ true rfl) hE hQ
theorem V9 {b : List Nat} (hb : B8 b) (hno : ∀ y, Bl y ≠ (b, 0)) : Sp Tryz.prog At 16 [.t (bI b)] (.tu [chZ, ci 2]) := by
 have ends : ∀ x : Ch, (∃ e : Int, e ≠ 0 ∧ ∃ c, Sp Tryz.prog At 13 [chK true 84 x] (.tu [.t (bI c), ci e])) ∨ (∃ c, Sp Tryz.prog At 13 [chK true 84 x] (.tu [.t (bI c), ci 0]) ∧ Sp Tryz.prog At 53 [.t (bI c), .t (bI b)] (lb false)) := by
  intro x;have hE := Zd x;by_cases h : (Bl x).2 = 0
  ·rw [h] at hE
   exact .inr ⟨_, hE, Sx false (decide_eq_false fun h2 => hno x (by rw [← h2, ← h])) (Jk x) hb⟩
  ·exact .inl ⟨_, h, _, hE⟩
 have hU1 := OR hb false;have hU2 := OR (Kp hb) (bdd false (eU b));have b2 := Kp (Kp hb);generalize rU (rU b) = r2 at *;generalize bdd (bdd false (eU b)) (eU (rU b)) = d2 at *;by_cases k1 : ((Bk b).1 : Int) = 1
 ·have hT := RR (I := At) b2 d2
  have hs : B8 (CJ r2).1 := by
   unfold CJ;split
   ·exact fun x hx => by cases hx
   ·split
    ·exact fun x hx => by cases hx
    ·split
     ·exact fun x hx => by cases hx
     ·exact (b2.drop _).take _
  rcases QR hs with ⟨q, hP⟩ | ⟨e, he, hP⟩
  ·cases hd : (!(bdd d2 (CJ r2).2.2) && decide ((rst r2 (CJ r2).2.1 (CJ r2).2.2).length = 0)) with
   | false => exact Wl hU1 hU2 Bq k1 hT hP (CV _ _ false hd)
   | true =>
    rcases ends ⟨((Bk b).1 : Nat), ((Bk (rU b)).1 : Nat), q, 0, 0, 0⟩ with ⟨e, he, c, hE⟩ | ⟨c, hE, hQ⟩
    ·exact Wk hU1 hU2 Bq k1 hT hP (CV _ _ true hd) he hE
    ·exact Wj hU1 hU2 Bq k1 hT hP (CV _ _ true hd) hE hQ
  ·exact Yj hU1 hU2 Bq k1 hT he hP
 ·by_cases k2 : ((Bk b).1 : Int) = 2
  ·have hU3 := OR b2 d2
   have hU4 := OR (Kp b2) (bdd d2 (eU r2));cases hd : (!(bdd (bdd d2 (eU r2)) (eU (rU r2))) && decide ((rU (rU r2)).length = 0)) with
   | false => exact Wh hU1 hU2 Bq k2 hU3 hU4 (CV _ _ false hd)
   | true =>
    rcases ends ⟨((Bk b).1 : Nat), ((Bk (rU b)).1 : Nat), 0, ((Bk r2).1 : Nat), ((Bk (rU r2)).1 : Nat), 0⟩ with ⟨e, he, c, hE⟩ | ⟨c, hE, hQ⟩
    ·exact Wg hU1 hU2 Bq k2 hU3 hU4 (CV _ _ true hd) he hE
    ·exact Wf hU1 hU2 Bq k2 hU3 hU4 (CV _ _ true hd) hE hQ
  ·by_cases k3 : ((Bk b).1 : Int) = 3
   ·have hI := Vc (I := At) b2 d2
    cases hd : (!(bdd d2 (ET r2).2.2) && decide ((rst r2 (ET r2).2.1 (ET r2).2.2).length = 0)) with
    | false => exact Wd hU1 hU2 Bq k3 hI (CV _ _ false hd)
    | true =>
     rcases ends ⟨((Bk b).1 : Nat), ((Bk (rU b)).1 : Nat), 0, 0, 0, (ET r2).1⟩ with ⟨e, he, c, hE⟩ | ⟨c, hE, hQ⟩
     ·exact Wc hU1 hU2 Bq k3 hI (CV _ _ true hd) he hE
     ·exact Wb hU1 hU2 Bq k3 hI (CV _ _ true hd) hE hQ
   ·cases hd : (!d2 && decide (r2.length = 0)) with
    | false => exact Wo hU1 hU2 Bq k1 k2 k3 (CV _ _ false hd)
    | true =>
     rcases ends ⟨((Bk b).1 : Nat), ((Bk (rU b)).1 : Nat), 0, 0, 0, 0⟩ with ⟨e, he, c, hE⟩ | ⟨c, hE, hQ⟩
     ·exact Wn hU1 hU2 Bq k1 k2 k3 (CV _ _ true hd) he hE
     ·exact Wm hU1 hU2 Bq k1 k2 k3 (CV _ _ true hd) hE hQ
set_option maxRecDepth 100000 in
theorem EX (n : Nat) (w : World) (hn : n ≤ 4611686018427387904) :
  Calls Tryz.prog 43 #[.int .i64 n] w (Ms .u8 5 w (Aa n)) := by
 go_enter Tryz.func43, Tryz.ntmps43
 go_wp2
 go_loopw [0, 3] (fun m v wr => ∃ (k : Nat) (xs : List Nat), m = .int .i64 k ∧ k ≤ n ∧ Hid (xs ++ Aa k = Aa n) ∧ Own .u8 5 w wr v xs) (fun m _ _ => (intOf m).toNat)
 case atStart => exact ⟨n, [], rfl, Nat.le_refl _, rfl, Own.nil (Below.refl _ _)⟩
 case round =>
  obtain ⟨k, xs, rfl, hk, HE, hown⟩ := hrel;have hl : xs.length < 9 := by
   have h9 := AG hn;rw [← HE.out, List.length_append] at h9;have := Ma k;omega
  by_cases hlt : 128 ≤ k
  ·have ha := Aaz k (by omega)
   have hu : IntKind.u8.wrap ((k % 128 : Nat) : Int) = ((k % 128 : Nat) : Int) := by rw [IntKind.wrap_u8]; omega
   have ho := ZE (k % 128) (by omega)
   go_wp2_with (at_builtin; go_must (refine Ay Tryz.elemU8w Tryz.underlying31 (hown.alloc _) (Rd.one .u8 _ 5 (y := k % 128 + 128) ?_) rfl rfl rfl rfl (by omega) (by omega) ?_))
   case refine_1 => first | exact ho | (have ho' := ho; simp at ho'; simp [ho'])
   case refine_2 =>
    intro v' w' hown' _ _;clear hown;go_wp2
    go_roundw
    case rel => exact ⟨k / 128, _, by go_num, by omega, by rw [← HE.out, GC (n := k) (by omega), List.append_assoc]; rfl, hown'⟩
    case measure => simp [intOf]; omega
  ·go_wp2_with (at_builtin; go_must (refine Ay Tryz.elemU8w Tryz.underlying31 (hown.alloc _) (Rd.one .u8 _ 5 (y := k) rfl) rfl rfl rfl rfl (by omega) (by omega) ?_; intro v' w' hown' _ _; clear hown))
   go_ret
   exact ⟨v', rfl, by rw [← HE.out, CI (by omega)]; exact hown'⟩
theorem OP (z : Int) (w : World) (h1 : -2305843009213693952 ≤ z) (h2 : z ≤ 2305843009213693952) :
  Calls Tryz.prog 46 #[.int .i64 z] w (Ms .u8 5 w (Aa (zig z))) := by
 by_cases hs : 0 ≤ z
 ·obtain ⟨m, rfl⟩ := Int.eq_ofNat_of_zero_le hs
  have hz : zig (m : Int) = 2 * m := by unfold zig; rw [if_pos hs]; omega
  rw [hz]; clear hz;go_enter Tryz.func46, Tryz.ntmps46
  go_wp2_with (go_at_call 43; go_must (refine (EX (2 * m) _ (by omega)).mono ?_; rintro e w' ⟨v, rfl, hown⟩))
  go_ret
  exact ⟨v, rfl, hown⟩
 ·obtain ⟨m, hm⟩ : ∃ m : Nat, (-2 * z - 1) = m := ⟨(-2 * z - 1).toNat, by omega⟩
  have hz : zig z = m := by unfold zig; rw [if_neg hs]; omega
  rw [hz]; clear hz;go_enter Tryz.func46, Tryz.ntmps46
  go_wp2_with (go_at_call 43; go_must (refine (EX m _ (by omega)).mono ?_; rintro e w' ⟨v, rfl, hown⟩))
  go_ret
  exact ⟨v, rfl, hown⟩
theorem OL (s : ByteArray) (w : World) (hs : s.size ≤ 1000000) : Calls Tryz.prog 45 #[.string s] w (Ms .u8 5 w (Aa s.size ++ bytesOf s)) := by
 go_enter Tryz.func45, Tryz.ntmps45
 go_wp2_with (first | (go_at_call 43; go_must (refine (EX s.size _ (by omega)).mono ?_; rintro e w' ⟨v, rfl, hown⟩)) | (at_builtin; refine BH Tryz.elemU8w Tryz.underlying31 Tryz.underlying9 hown rfl rfl rfl rfl ?_ ?_))
 case refine_1 => have := AG (n := s.size) (by omega); omega
 case refine_2 =>
  intro v1 w1 hown1 _;clear hown;go_wp2
  go_ret
  exact ⟨v1, rfl, hown1⟩
section
variable {I : WInv} {c : Bool} {k : Nat}
theorem H8 {N : Nat → Prop} {w w' : World} {xs : List Nat} {t : TypeId} {e : Ending} (h : Ms .u8 t w xs e w') : ∃ v, e = .returned v ∧ (tit (bI xs)).sem (Nx N w w') w' G0 v ∧ Below w.heap.size w w' := by
 obtain ⟨v, e1, h1⟩ := h;exact ⟨_, e1, QU h1, h1.2⟩
theorem FS (n : Nat) (h : n ≤ 4611686018427387904) : Sp Tryz.prog I 43 [ci (n : Int)] (tit (bI (Aa n))) := by
 intro N w vs _ _ hv;rw [J7 hv];exact (EX n w h).mono fun e w' he => H8 he
theorem YR (z : Int) (h : BL z = true) : Sp Tryz.prog I 46 [ci z] (tit (bI (Aa (zig z)))) := by
 intro N w vs _ _ hv;rw [J7 hv];have := Do h;exact (OP z w (by omega) (by omega)).mono fun e w' he => H8 he
theorem YO {xs : List Nat} (hx : B8 xs) (hl : xs.length ≤ 1000000) : Sp Tryz.prog I 45 [cS xs] (tit (bI (Aa xs.length ++ xs))) := by
 intro N w vs _ _ hv;rw [J7 hv];have := OL (AI xs) w (by rw [BC]; omega)
 rw [BC, hx.bo] at this;exact this.mono fun e w' he => H8 he
theorem XW (q : Rat) (hk : k ≤ 1000) (b : Bool) (h : decide (q.den = 1) = b) : Sp Tryz.prog I 95 [fc c k q] (lb b) := by
 have hm : decide (EU (q.den : Int) 1 = 0) = b := by
  rw [← h]; unfold EU;by_cases h1 : q.den = 1
  ·rw [h1]; rfl
  ·rw [decide_eq_false h1]
   by_cases h2 : (q.den : Int) < 1
   ·rw [if_pos h2]; rfl
   ·rw [if_neg h2, if_neg (by omega)]; rfl
 cases b with
 | false => exact sr 9 [po ((BM (I := I) (c := c) (k := k) (p := q) (by omega)).rs (DP (k := k) (q := q)).tv), po (RU (I := I) 1 ⟨by omega, by omega⟩), po (YS (I := I) (k := k) (j := 2) (a := (q.den : Int)) (b := 1) (by omega) (by omega)), pk (AX 3 (EU (q.den : Int) 1) 0 false hm)]
 | true => exact sr 9 [po ((BM (I := I) (c := c) (k := k) (p := q) (by omega)).rs (DP (k := k) (q := q)).tv), po (RU (I := I) 1 ⟨by omega, by omega⟩), po (YS (I := I) (k := k) (j := 2) (a := (q.den : Int)) (b := 1) (by omega) (by omega)), pk (AX 3 (EU (q.den : Int) 1) 0 true hm)]
theorem AaJ {f : FuncId} {res : TV} {q : Rat} (h : Lq q k → Sp Tryz.prog I f [fc c k q] res) : Sp Tryz.prog I f [fc c k q] res := by
 intro N w vs hI hl hv;have hv' := hv;obtain ⟨v, r, e, h1, h2⟩ := hv';obtain ⟨n, d, a, b, k0, hq, hs⟩ := Sw h1;exact h (by rw [← hq]; exact ⟨FC a, GA b k0, k0⟩) N w vs hI hl hv
theorem Zo (q : Rat) (hk : k ≤ 1000) (hq : Lq q k) : Sp Tryz.prog I 44 [fc c k q] (tS (BZ q)) := by
 have fn := Vd (I := I) (BV (k := k) (z := q.num) (by omega))
 have fd := Vd (I := I) (BV (k := k) (z := (q.den : Int)) (by omega))
 have hk0 := hq.k0;have ln := Jp hq.n;have ld := Jp hq.d;have hi := XW (I := I) (c := true) (k := k) q hk (decide (q.den = 1)) rfl;unfold BZ;by_cases h : q.den = 1
 ·rw [if_pos h]
  rw [decide_eq_true h] at hi;exact sr 18 [po ((BM (I := I) (c := c) (k := k) (p := q) (by omega)).rs (DP (k := k) (q := q)).tv), po (Sp.wk (args' := [.ag [.b (.it (IP (kP k q.num))), .b (.it (IP (kP k (q.den : Int))))]]) (hi) ⟨(VQ (by omega)), trivial⟩), po (fn)]
 ·rw [if_neg h, ← List.append_assoc]
  rw [decide_eq_false h] at hi;exact sr 18 [po ((BM (I := I) (c := c) (k := k) (p := q) (by omega)).rs (DP (k := k) (q := q)).tv), po (Sp.wk (args' := [.ag [.b (.it (IP (kP k q.num))), .b (.it (IP (kP k (q.den : Int))))]]) (hi) ⟨(VQ (by omega)), trivial⟩), po (fn), pk (FT 9 (CG q.num) [47] (by simp; omega)), po (fd), pk (FT 9 (CG q.num ++ [47]) (CG (q.den : Int)) (by simp; omega))]
end
section
variable {I : WInv} {c : Bool} {k : Nat}
theorem Abg (x : Nat) (hx : x < 256) : BA Tryz.prog (.conv 3 5) [li (x : Int)] (Cg (.int .u8 (x : Int))) := BU (vs := [.int .i64 (x : Int)]) fun w => by
 have h : IntKind.u8.wrap (x : Int) = (x : Int) := by rw [IntKind.wrap_u8]; omega
 have h1 : (underlying 3).run Tryz.prog w = .ok (.int .i64) w := AR (by kernel_rfl) w
 have h2 : (underlying 5).run Tryz.prog w = .ok (.int .u8) w := AR (by kernel_rfl) w
 simp [OpK.run, convert, h1, h2, Conv.intToInt, h]
def ust (n : Nat) : Go.Proofs.YtdgbealknnmkoaaGreatDoor.St := ⟨[(0, .i (n : Int)), (3, .cv (.one (.z)))], [], 50⟩
theorem Ld (n : Nat) (h : n < 128) : SpN Tryz.prog I 43 [ci (n : Int)] none (bbx (Aa n)) := by
 have lo : LoopTr Tryz.prog I 20 (Bn Tryz.prog 43 0) (ust n) (.exit 0) (ust n) := CR (fun h => by cases h) (fun _ => ust n) 0 (fun i hi => absurd hi (by omega)) (rr [pk (Ck 3 (n : Int) 128)])
 have h1 : SpN Tryz.prog I 43 [ci (n : Int)] none ⟨5, some (1, 1), [.b (.lit (.int .u8 (n : Int)))]⟩ := sn 20 54 [pl (lo), pk (Abg n (by omega)), ⟨.ap 0 1 1, ⟨by omega, by simp [maxLen]⟩⟩] rfl
 rw [CI h];exact h1
theorem AJ (n : Int) (b : Bool) (h : DK n = b) : Sp Tryz.prog I 40 [ci n] (lb b) := by
 unfold DK at h;by_cases h1 : 0 ≤ n
 ·by_cases h2 : n ≤ 1099511627776
  ·rw [decide_eq_true h1, decide_eq_true h2] at h; subst h
   exact sr 9 [pk (Br 3 n 0), pk (Hs 3 n 1099511627776)]
  ·rw [decide_eq_true h1, decide_eq_false h2] at h; subst h
   exact sr 9 [pk (Br 3 n 0), pk (Ke 3 n 1099511627776)]
 ·rw [decide_eq_false h1] at h; subst h
  exact sr 9 [pk (Ck 3 n 0)]
theorem X1 {n : Nat} {q : Rat} (hn : n ≤ 1099511627776) (s : List Nat) (hs8 : B8 s) (hf : Sp Tryz.prog I 44 [fc c k q] (tS s)) : (s.length ≤ 400 → Sp Tryz.prog I 14 [chK c k ⟨1, (n : Int), q, 0, 0, 0⟩] (.tu [.t (bI (Aa 1 ++ Aa n ++ (Aa s.length ++ s))), ci 0]) ∧ SpN Tryz.prog I 14 [chK c k ⟨1, (n : Int), q, 0, 0, 0⟩] (some [ci 0]) (bbx (Aa 1 ++ Aa n ++ (Aa s.length ++ s)))) ∧ (400 < s.length → Sp Tryz.prog I 14 [chK c k ⟨1, (n : Int), q, 0, 0, 0⟩] (.tu [.one (.z), ci 10])) := by
 have hn' : n ≤ 4611686018427387904 := by omega
 have h1 := AG (n := 1) (by omega)
 have h2 := AG hn';have hn1 := AJ (I := I) (n : Int) true (by simp [DK]; omega)
 have hn2 := AJ (I := I) 0 true rfl;have hn3 := hn2;have hc := Em (I := I) 0;rw [show BL 0 = true from rfl] at hc;constructor
 ·intro hl
  have h3 := AG (n := s.length) (by omega)
  constructor
  ·exact sr 115 [pa, pa, pa, pa, po (hn1), pa, po (hn2), pa, po (hn3), pa, po (hc), pa, pa, pa, pa, pa, pa, pa, pon (Ld 1 (by omega)), po (FS n hn'), ⟨.src 1 (bI (Aa n)) ((Aa n).map Af).length ((Aa n).map Af).flatten, Ci Bm (AT _)⟩, ⟨.ap ((Aa 1).length) (((Aa n).map Af).length) 1, ⟨by simp; omega, by simp [maxLen]; omega⟩⟩, po (hf), pk (Bs 9 3 s), pk (AD 3 (s.length : Int) 400), po (YO hs8 (by omega)), ⟨.src 1 (bI (Aa s.length ++ s)) ((Aa s.length ++ s).map Af).length ((Aa s.length ++ s).map Af).flatten, Ci Bm (AT _)⟩, ⟨.ap ((Aa 1).length + ((Aa n).map Af).length) (((Aa s.length ++ s).map Af).length) 1, ⟨by simp; omega, by simp [maxLen]; omega⟩⟩, pm ((show Leads I _ ⟨[(7, .s 103), (3, .i 0)], [(103, some ⟨5, some (1, (Aa 1).length + ((Aa n).map Af).length + ((Aa s.length ++ s).map Af).length), ((Ad ((Aa 1).map Af)) ++ (((Aa n).map Af).flatten.map It.b)) ++ (((Aa s.length ++ s).map Af).flatten.map It.b)⟩)], 105⟩ ⟨[(7, .s 103), (3, .i 0)], [(103, some ⟨5, some (1, (Aa 1 ++ Aa n ++ (Aa s.length ++ s)).length), Ad ((Aa 1 ++ Aa n ++ (Aa s.length ++ s)).map Af)⟩)], 105⟩ from AK [] ⟨rfl, TVle.refl, rfl, TVle.refl, trivial⟩ ⟨rfl, rfl, (congrArg (fun m => some (1, m)) (show (Aa 1).length + ((Aa n).map Af).length + ((Aa s.length ++ s).map Af).length = (Aa 1 ++ Aa n ++ (Aa s.length ++ s)).length by simp only [List.length_append, List.length_map] <;> omega)), ILe.eq (show ((Ad ((Aa 1).map Af)) ++ (((Aa n).map Af).flatten.map It.b)) ++ (((Aa s.length ++ s).map Af).flatten.map It.b) = Ad ((Aa 1 ++ Aa n ++ (Aa s.length ++ s)).map Af) from by simp [Ad]), trivial⟩ (hnp := ⟨fun _ => BI (BI (Au _) (Au _)) (Au _), trivial⟩))), pm (AV (I := I) (t := 7) (k := 103) (E := [(3, .i 0)]) (B := []) (nx := 105) (T := 5) (sz := 1) (n := ((Aa 1 ++ Aa n ++ (Aa s.length ++ s)).length)) ((Aa 1 ++ Aa n ++ (Aa s.length ++ s)).map Af) rfl (by simp) Bm rfl)]
  ·exact sn 115 103 [pa, pa, pa, pa, po (hn1), pa, po (hn2), pa, po (hn3), pa, po (hc), pa, pa, pa, pa, pa, pa, pa, pon (Ld 1 (by omega)), po (FS n hn'), ⟨.src 1 (bI (Aa n)) ((Aa n).map Af).length ((Aa n).map Af).flatten, Ci Bm (AT _)⟩, ⟨.ap ((Aa 1).length) (((Aa n).map Af).length) 1, ⟨by simp; omega, by simp [maxLen]; omega⟩⟩, po (hf), pk (Bs 9 3 s), pk (AD 3 (s.length : Int) 400), po (YO hs8 (by omega)), ⟨.src 1 (bI (Aa s.length ++ s)) ((Aa s.length ++ s).map Af).length ((Aa s.length ++ s).map Af).flatten, Ci Bm (AT _)⟩, ⟨.ap ((Aa 1).length + ((Aa n).map Af).length) (((Aa s.length ++ s).map Af).length) 1, ⟨by simp; omega, by simp [maxLen]; omega⟩⟩, pm ((show Leads I _ ⟨[(7, .s 103), (3, .i 0)], [(103, some ⟨5, some (1, (Aa 1).length + ((Aa n).map Af).length + ((Aa s.length ++ s).map Af).length), ((Ad ((Aa 1).map Af)) ++ (((Aa n).map Af).flatten.map It.b)) ++ (((Aa s.length ++ s).map Af).flatten.map It.b)⟩)], 105⟩ ⟨[(7, .s 103), (3, .i 0)], [(103, some ⟨5, some (1, (Aa 1 ++ Aa n ++ (Aa s.length ++ s)).length), Ad ((Aa 1 ++ Aa n ++ (Aa s.length ++ s)).map Af)⟩)], 105⟩ from AK [] ⟨rfl, TVle.refl, rfl, TVle.refl, trivial⟩ ⟨rfl, rfl, (congrArg (fun m => some (1, m)) (show (Aa 1).length + ((Aa n).map Af).length + ((Aa s.length ++ s).map Af).length = (Aa 1 ++ Aa n ++ (Aa s.length ++ s)).length by simp only [List.length_append, List.length_map] <;> omega)), ILe.eq (show ((Ad ((Aa 1).map Af)) ++ (((Aa n).map Af).flatten.map It.b)) ++ (((Aa s.length ++ s).map Af).flatten.map It.b) = Ad ((Aa 1 ++ Aa n ++ (Aa s.length ++ s)).map Af) from by simp [Ad]), trivial⟩ (hnp := ⟨fun _ => BI (BI (Au _) (Au _)) (Au _), trivial⟩)))] (Au _)
 ·intro hl
  exact sr 115 [pa, pa, pa, pa, po (hn1), pa, po (hn2), pa, po (hn3), pa, po (hc), pa, pa, pa, pa, pa, pa, pa, pon (Ld 1 (by omega)), po (FS n hn'), ⟨.src 1 (bI (Aa n)) ((Aa n).map Af).length ((Aa n).map Af).flatten, Ci Bm (AT _)⟩, ⟨.ap ((Aa 1).length) (((Aa n).map Af).length) 1, ⟨by simp; omega, by simp [maxLen]; omega⟩⟩, po (hf), pk (Bs 9 3 s), pk (Dp 3 (s.length : Int) 400)]
theorem X0 {n a b : Nat} {q : Rat} (hn : n ≤ 1099511627776) (ha : a ≤ 1099511627776) (hb : b ≤ 1099511627776) (hsg : Sp Tryz.prog I 42 [fc c k q] (li 0)) : Sp Tryz.prog I 14 [chK c k ⟨2, (n : Int), q, (a : Int), (b : Int), 0⟩] (.tu [.t (bI (Aa 2 ++ Aa n ++ Aa a ++ Aa b)), ci 0]) ∧ SpN Tryz.prog I 14 [chK c k ⟨2, (n : Int), q, (a : Int), (b : Int), 0⟩] (some [ci 0]) (bbx (Aa 2 ++ Aa n ++ Aa a ++ Aa b)) := by
 have hn' : n ≤ 4611686018427387904 := by omega
 have ha' : a ≤ 4611686018427387904 := by omega
 have hb' : b ≤ 4611686018427387904 := by omega
 have h1 := AG (n := 2) (by omega)
 have h2 := AG hn';have h3 := AG ha';have h4 := AG hb';have hn1 := AJ (I := I) (n : Int) true (by simp [DK]; omega)
 have hn2 := AJ (I := I) (a : Int) true (by simp [DK]; omega)
 have hn3 := AJ (I := I) (b : Int) true (by simp [DK]; omega)
 have hc := Em (I := I) 0;rw [show BL 0 = true from rfl] at hc;constructor
 ·exact sr 115 [pa, pa, pa, pa, pa, po (hn1), pa, po (hn2), pa, po (hn3), pa, po (hc), pa, pa, po (hsg), pa, pa, pa, pa, pon (Ld 2 (by omega)), po (FS n hn'), ⟨.src 1 (bI (Aa n)) ((Aa n).map Af).length ((Aa n).map Af).flatten, Ci Bm (AT _)⟩, ⟨.ap ((Aa 2).length) (((Aa n).map Af).length) 1, ⟨by simp; omega, by simp [maxLen]; omega⟩⟩, po (FS a ha'), ⟨.src 1 (bI (Aa a)) ((Aa a).map Af).length ((Aa a).map Af).flatten, Ci Bm (AT _)⟩, ⟨.ap ((Aa 2).length + ((Aa n).map Af).length) (((Aa a).map Af).length) 1, ⟨by simp; omega, by simp [maxLen]; omega⟩⟩, po (FS b hb'), ⟨.src 1 (bI (Aa b)) ((Aa b).map Af).length ((Aa b).map Af).flatten, Ci Bm (AT _)⟩, ⟨.ap ((Aa 2).length + ((Aa n).map Af).length + ((Aa a).map Af).length) (((Aa b).map Af).length) 1, ⟨by simp; omega, by simp [maxLen]; omega⟩⟩, pm ((show Leads I _ ⟨[(7, .s 103), (3, .i 0)], [(103, some ⟨5, some (1, (Aa 2).length + ((Aa n).map Af).length + ((Aa a).map Af).length + ((Aa b).map Af).length), (((Ad ((Aa 2).map Af)) ++ (((Aa n).map Af).flatten.map It.b)) ++ (((Aa a).map Af).flatten.map It.b)) ++ (((Aa b).map Af).flatten.map It.b)⟩)], 105⟩ ⟨[(7, .s 103), (3, .i 0)], [(103, some ⟨5, some (1, (Aa 2 ++ Aa n ++ Aa a ++ Aa b).length), Ad ((Aa 2 ++ Aa n ++ Aa a ++ Aa b).map Af)⟩)], 105⟩ from AK [] ⟨rfl, TVle.refl, rfl, TVle.refl, trivial⟩ ⟨rfl, rfl, (congrArg (fun m => some (1, m)) (show (Aa 2).length + ((Aa n).map Af).length + ((Aa a).map Af).length + ((Aa b).map Af).length = (Aa 2 ++ Aa n ++ Aa a ++ Aa b).length by simp only [List.length_append, List.length_map] <;> omega)), ILe.eq (show (((Ad ((Aa 2).map Af)) ++ (((Aa n).map Af).flatten.map It.b)) ++ (((Aa a).map Af).flatten.map It.b)) ++ (((Aa b).map Af).flatten.map It.b) = Ad ((Aa 2 ++ Aa n ++ Aa a ++ Aa b).map Af) from by simp [Ad]), trivial⟩ (hnp := ⟨fun _ => BI (BI (BI (Au _) (Au _)) (Au _)) (Au _), trivial⟩))), pm (AV (I := I) (t := 7) (k := 103) (E := [(3, .i 0)]) (B := []) (nx := 105) (T := 5) (sz := 1) (n := ((Aa 2 ++ Aa n ++ Aa a ++ Aa b).length)) ((Aa 2 ++ Aa n ++ Aa a ++ Aa b).map Af) rfl (by simp) Bm rfl)]
 ·exact sn 115 103 [pa, pa, pa, pa, pa, po (hn1), pa, po (hn2), pa, po (hn3), pa, po (hc), pa, pa, po (hsg), pa, pa, pa, pa, pon (Ld 2 (by omega)), po (FS n hn'), ⟨.src 1 (bI (Aa n)) ((Aa n).map Af).length ((Aa n).map Af).flatten, Ci Bm (AT _)⟩, ⟨.ap ((Aa 2).length) (((Aa n).map Af).length) 1, ⟨by simp; omega, by simp [maxLen]; omega⟩⟩, po (FS a ha'), ⟨.src 1 (bI (Aa a)) ((Aa a).map Af).length ((Aa a).map Af).flatten, Ci Bm (AT _)⟩, ⟨.ap ((Aa 2).length + ((Aa n).map Af).length) (((Aa a).map Af).length) 1, ⟨by simp; omega, by simp [maxLen]; omega⟩⟩, po (FS b hb'), ⟨.src 1 (bI (Aa b)) ((Aa b).map Af).length ((Aa b).map Af).flatten, Ci Bm (AT _)⟩, ⟨.ap ((Aa 2).length + ((Aa n).map Af).length + ((Aa a).map Af).length) (((Aa b).map Af).length) 1, ⟨by simp; omega, by simp [maxLen]; omega⟩⟩, pm ((show Leads I _ ⟨[(7, .s 103), (3, .i 0)], [(103, some ⟨5, some (1, (Aa 2).length + ((Aa n).map Af).length + ((Aa a).map Af).length + ((Aa b).map Af).length), (((Ad ((Aa 2).map Af)) ++ (((Aa n).map Af).flatten.map It.b)) ++ (((Aa a).map Af).flatten.map It.b)) ++ (((Aa b).map Af).flatten.map It.b)⟩)], 105⟩ ⟨[(7, .s 103), (3, .i 0)], [(103, some ⟨5, some (1, (Aa 2 ++ Aa n ++ Aa a ++ Aa b).length), Ad ((Aa 2 ++ Aa n ++ Aa a ++ Aa b).map Af)⟩)], 105⟩ from AK [] ⟨rfl, TVle.refl, rfl, TVle.refl, trivial⟩ ⟨rfl, rfl, (congrArg (fun m => some (1, m)) (show (Aa 2).length + ((Aa n).map Af).length + ((Aa a).map Af).length + ((Aa b).map Af).length = (Aa 2 ++ Aa n ++ Aa a ++ Aa b).length by simp only [List.length_append, List.length_map] <;> omega)), ILe.eq (show (((Ad ((Aa 2).map Af)) ++ (((Aa n).map Af).flatten.map It.b)) ++ (((Aa a).map Af).flatten.map It.b)) ++ (((Aa b).map Af).flatten.map It.b) = Ad ((Aa 2 ++ Aa n ++ Aa a ++ Aa b).map Af) from by simp [Ad]), trivial⟩ (hnp := ⟨fun _ => BI (BI (BI (Au _) (Au _)) (Au _)) (Au _), trivial⟩)))] (Au _)
theorem Xz {n : Nat} {z : Int} {q : Rat} (hn : n = 0) (hz : BL z = true) (hsg : Sp Tryz.prog I 42 [fc c k q] (li 0)) : Sp Tryz.prog I 14 [chK c k ⟨3, (n : Int), q, 0, 0, z⟩] (.tu [.t (bI (Aa 3 ++ Aa n ++ Aa (zig z))), ci 0]) ∧ SpN Tryz.prog I 14 [chK c k ⟨3, (n : Int), q, 0, 0, z⟩] (some [ci 0]) (bbx (Aa 3 ++ Aa n ++ Aa (zig z))) := by
 have hn' : n ≤ 4611686018427387904 := by omega
 have h1 := AG (n := 3) (by omega)
 have h2 := AG hn';have hcz := Do hz;have h3 := AG (KU z (by omega) (by omega))
 have hn1 := AJ (I := I) (n : Int) true (by simp [DK]; omega)
 have hn2 := AJ (I := I) 0 true rfl;have hn3 := hn2;have hc := Em (I := I) z;rw [hz] at hc;constructor
 ·exact sr 115 [pa, pa, pa, pa, pa, pa, po (hn1), pa, po (hn2), pa, po (hn3), pa, po (hc), pa, pk (As 3 (n : Int) 0), pa, po (hsg), pa, pa, pa, pa, pa, pon (Ld 3 (by omega)), po (FS n hn'), ⟨.src 1 (bI (Aa n)) ((Aa n).map Af).length ((Aa n).map Af).flatten, Ci Bm (AT _)⟩, ⟨.ap ((Aa 3).length) (((Aa n).map Af).length) 1, ⟨by simp; omega, by simp [maxLen]; omega⟩⟩, po (YR z hz), ⟨.src 1 (bI (Aa (zig z))) ((Aa (zig z)).map Af).length ((Aa (zig z)).map Af).flatten, Ci Bm (AT _)⟩, ⟨.ap ((Aa 3).length + ((Aa n).map Af).length) (((Aa (zig z)).map Af).length) 1, ⟨by simp; omega, by simp [maxLen]; omega⟩⟩, pm ((show Leads I _ ⟨[(7, .s 99), (3, .i 0)], [(99, some ⟨5, some (1, (Aa 3).length + ((Aa n).map Af).length + ((Aa (zig z)).map Af).length), ((Ad ((Aa 3).map Af)) ++ (((Aa n).map Af).flatten.map It.b)) ++ (((Aa (zig z)).map Af).flatten.map It.b)⟩)], 101⟩ ⟨[(7, .s 99), (3, .i 0)], [(99, some ⟨5, some (1, (Aa 3 ++ Aa n ++ Aa (zig z)).length), Ad ((Aa 3 ++ Aa n ++ Aa (zig z)).map Af)⟩)], 101⟩ from AK [] ⟨rfl, TVle.refl, rfl, TVle.refl, trivial⟩ ⟨rfl, rfl, (congrArg (fun m => some (1, m)) (show (Aa 3).length + ((Aa n).map Af).length + ((Aa (zig z)).map Af).length = (Aa 3 ++ Aa n ++ Aa (zig z)).length by simp only [List.length_append, List.length_map] <;> omega)), ILe.eq (show ((Ad ((Aa 3).map Af)) ++ (((Aa n).map Af).flatten.map It.b)) ++ (((Aa (zig z)).map Af).flatten.map It.b) = Ad ((Aa 3 ++ Aa n ++ Aa (zig z)).map Af) from by simp [Ad]), trivial⟩ (hnp := ⟨fun _ => BI (BI (Au _) (Au _)) (Au _), trivial⟩))), pm (AV (I := I) (t := 7) (k := 99) (E := [(3, .i 0)]) (B := []) (nx := 101) (T := 5) (sz := 1) (n := ((Aa 3 ++ Aa n ++ Aa (zig z)).length)) ((Aa 3 ++ Aa n ++ Aa (zig z)).map Af) rfl (by simp) Bm rfl)]
 ·exact sn 115 99 [pa, pa, pa, pa, pa, pa, po (hn1), pa, po (hn2), pa, po (hn3), pa, po (hc), pa, pk (As 3 (n : Int) 0), pa, po (hsg), pa, pa, pa, pa, pa, pon (Ld 3 (by omega)), po (FS n hn'), ⟨.src 1 (bI (Aa n)) ((Aa n).map Af).length ((Aa n).map Af).flatten, Ci Bm (AT _)⟩, ⟨.ap ((Aa 3).length) (((Aa n).map Af).length) 1, ⟨by simp; omega, by simp [maxLen]; omega⟩⟩, po (YR z hz), ⟨.src 1 (bI (Aa (zig z))) ((Aa (zig z)).map Af).length ((Aa (zig z)).map Af).flatten, Ci Bm (AT _)⟩, ⟨.ap ((Aa 3).length + ((Aa n).map Af).length) (((Aa (zig z)).map Af).length) 1, ⟨by simp; omega, by simp [maxLen]; omega⟩⟩, pm ((show Leads I _ ⟨[(7, .s 99), (3, .i 0)], [(99, some ⟨5, some (1, (Aa 3).length + ((Aa n).map Af).length + ((Aa (zig z)).map Af).length), ((Ad ((Aa 3).map Af)) ++ (((Aa n).map Af).flatten.map It.b)) ++ (((Aa (zig z)).map Af).flatten.map It.b)⟩)], 101⟩ ⟨[(7, .s 99), (3, .i 0)], [(99, some ⟨5, some (1, (Aa 3 ++ Aa n ++ Aa (zig z)).length), Ad ((Aa 3 ++ Aa n ++ Aa (zig z)).map Af)⟩)], 101⟩ from AK [] ⟨rfl, TVle.refl, rfl, TVle.refl, trivial⟩ ⟨rfl, rfl, (congrArg (fun m => some (1, m)) (show (Aa 3).length + ((Aa n).map Af).length + ((Aa (zig z)).map Af).length = (Aa 3 ++ Aa n ++ Aa (zig z)).length by simp only [List.length_append, List.length_map] <;> omega)), ILe.eq (show ((Ad ((Aa 3).map Af)) ++ (((Aa n).map Af).flatten.map It.b)) ++ (((Aa (zig z)).map Af).flatten.map It.b) = Ad ((Aa 3 ++ Aa n ++ Aa (zig z)).map Af) from by simp [Ad]), trivial⟩ (hnp := ⟨fun _ => BI (BI (Au _) (Au _)) (Au _), trivial⟩)))] (Au _)
set_option maxRecDepth 100000 in
theorem RW (x : Ch) (hk : k ≤ 262144) (hw : Bg x = false) : Sp Tryz.prog I 14 [chK c k x] (.tu [.one (.z), ci 5]) := by
 have hc := Em (I := I) x.cost;by_cases hk1 : x.kind = 1
 ·cases h1 : DK x.node with
  | false => exact sr 115 [pk (Am 3 x.kind 1), pk (Ae 3 x.kind 2), pk (Ae 3 x.kind 3), pa, po (AJ x.node false h1), pa]
  | true =>
   cases h2 : DK x.fst with
   | false => exact sr 115 [pk (Am 3 x.kind 1), pk (Ae 3 x.kind 2), pk (Ae 3 x.kind 3), pa, po (AJ x.node true h1), pa, po (AJ x.fst false h2), pa]
   | true =>
    cases h3 : DK x.nxt with
    | false => exact sr 115 [pk (Am 3 x.kind 1), pk (Ae 3 x.kind 2), pk (Ae 3 x.kind 3), pa, po (AJ x.node true h1), pa, po (AJ x.fst true h2), pa, po (AJ x.nxt false h3), pa]
    | true =>
     cases h4 : BL x.cost with
     | false => rw [h4] at hc; exact sr 115 [pk (Am 3 x.kind 1), pk (Ae 3 x.kind 2), pk (Ae 3 x.kind 3), pa, po (AJ x.node true h1), pa, po (AJ x.fst true h2), pa, po (AJ x.nxt true h3), pa, po (hc), pa]
     | true =>
      rw [h4] at hc;by_cases g6 : x.fst ≠ 0
      ·exact sr 115 [pk (Am 3 x.kind 1), pk (Ae 3 x.kind 2), pk (Ae 3 x.kind 3), pa, po (AJ x.node true h1), pa, po (AJ x.fst true h2), pa, po (AJ x.nxt true h3), pa, po (hc), pa, pa, pa, pk (AO 3 x.fst 0)]
      ·by_cases g7 : x.nxt ≠ 0
       ·exact sr 115 [pk (Am 3 x.kind 1), pk (Ae 3 x.kind 2), pk (Ae 3 x.kind 3), pa, po (AJ x.node true h1), pa, po (AJ x.fst true h2), pa, po (AJ x.nxt true h3), pa, po (hc), pa, pa, pa, pk (As 3 x.fst 0), pk (AO 3 x.nxt 0)]
       ·by_cases g8 : x.cost ≠ 0
        ·exact sr 115 [pk (Am 3 x.kind 1), pk (Ae 3 x.kind 2), pk (Ae 3 x.kind 3), pa, po (AJ x.node true h1), pa, po (AJ x.fst true h2), pa, po (AJ x.nxt true h3), pa, po (hc), pa, pa, pa, pk (As 3 x.fst 0), pk (As 3 x.nxt 0), pa, pk (AO 3 x.cost 0)]
        ·exfalso
         simp only [Decidable.not_not] at g6 g7 g8;revert hw; unfold Bg; simp [h1, h2, h3, h4, g6, g7, g8, hk1] <;> decide
 by_cases hk2 : x.kind = 2
 ·cases h1 : DK x.node with
  | false => exact sr 115 [pk (Ae 3 x.kind 1), pk (Am 3 x.kind 2), pk (Ae 3 x.kind 3), pa, pa, po (AJ x.node false h1), pa]
  | true =>
   cases h2 : DK x.fst with
   | false => exact sr 115 [pk (Ae 3 x.kind 1), pk (Am 3 x.kind 2), pk (Ae 3 x.kind 3), pa, pa, po (AJ x.node true h1), pa, po (AJ x.fst false h2), pa]
   | true =>
    cases h3 : DK x.nxt with
    | false => exact sr 115 [pk (Ae 3 x.kind 1), pk (Am 3 x.kind 2), pk (Ae 3 x.kind 3), pa, pa, po (AJ x.node true h1), pa, po (AJ x.fst true h2), pa, po (AJ x.nxt false h3), pa]
    | true =>
     cases h4 : BL x.cost with
     | false => rw [h4] at hc; exact sr 115 [pk (Ae 3 x.kind 1), pk (Am 3 x.kind 2), pk (Ae 3 x.kind 3), pa, pa, po (AJ x.node true h1), pa, po (AJ x.fst true h2), pa, po (AJ x.nxt true h3), pa, po (hc), pa]
     | true =>
      rw [h4] at hc;by_cases g5 : x.q.num.sign ≠ 0
      ·exact sr 115 [pk (Ae 3 x.kind 1), pk (Am 3 x.kind 2), pk (Ae 3 x.kind 3), pa, pa, po (AJ x.node true h1), pa, po (AJ x.fst true h2), pa, po (AJ x.nxt true h3), pa, po (hc), pa, pa, po (EE (c := c) (k := k) (p := x.q) hk), pk (AO 3 x.q.num.sign 0)]
      ·by_cases g8 : x.cost ≠ 0
       ·exact sr 115 [pk (Ae 3 x.kind 1), pk (Am 3 x.kind 2), pk (Ae 3 x.kind 3), pa, pa, po (AJ x.node true h1), pa, po (AJ x.fst true h2), pa, po (AJ x.nxt true h3), pa, po (hc), pa, pa, po (EE (c := c) (k := k) (p := x.q) hk), pk (As 3 x.q.num.sign 0), pa, pa, pk (AO 3 x.cost 0)]
       ·exfalso
        simp only [Decidable.not_not] at g5 g8;revert hw; unfold Bg; simp [h1, h2, h3, h4, g5, g8, hk2] <;> decide
 by_cases hk3 : x.kind = 3
 ·cases h1 : DK x.node with
  | false => exact sr 115 [pk (Ae 3 x.kind 1), pk (Ae 3 x.kind 2), pk (Am 3 x.kind 3), pa, pa, pa, po (AJ x.node false h1), pa]
  | true =>
   cases h2 : DK x.fst with
   | false => exact sr 115 [pk (Ae 3 x.kind 1), pk (Ae 3 x.kind 2), pk (Am 3 x.kind 3), pa, pa, pa, po (AJ x.node true h1), pa, po (AJ x.fst false h2), pa]
   | true =>
    cases h3 : DK x.nxt with
    | false => exact sr 115 [pk (Ae 3 x.kind 1), pk (Ae 3 x.kind 2), pk (Am 3 x.kind 3), pa, pa, pa, po (AJ x.node true h1), pa, po (AJ x.fst true h2), pa, po (AJ x.nxt false h3), pa]
    | true =>
     cases h4 : BL x.cost with
     | false => rw [h4] at hc; exact sr 115 [pk (Ae 3 x.kind 1), pk (Ae 3 x.kind 2), pk (Am 3 x.kind 3), pa, pa, pa, po (AJ x.node true h1), pa, po (AJ x.fst true h2), pa, po (AJ x.nxt true h3), pa, po (hc), pa]
     | true =>
      rw [h4] at hc;by_cases g4 : x.node ≠ 0
      ·exact sr 115 [pk (Ae 3 x.kind 1), pk (Ae 3 x.kind 2), pk (Am 3 x.kind 3), pa, pa, pa, po (AJ x.node true h1), pa, po (AJ x.fst true h2), pa, po (AJ x.nxt true h3), pa, po (hc), pa, pk (AO 3 x.node 0)]
      ·by_cases g5 : x.q.num.sign ≠ 0
       ·exact sr 115 [pk (Ae 3 x.kind 1), pk (Ae 3 x.kind 2), pk (Am 3 x.kind 3), pa, pa, pa, po (AJ x.node true h1), pa, po (AJ x.fst true h2), pa, po (AJ x.nxt true h3), pa, po (hc), pa, pk (As 3 x.node 0), pa, po (EE (c := c) (k := k) (p := x.q) hk), pk (AO 3 x.q.num.sign 0)]
       ·by_cases g6 : x.fst ≠ 0
        ·exact sr 115 [pk (Ae 3 x.kind 1), pk (Ae 3 x.kind 2), pk (Am 3 x.kind 3), pa, pa, pa, po (AJ x.node true h1), pa, po (AJ x.fst true h2), pa, po (AJ x.nxt true h3), pa, po (hc), pa, pk (As 3 x.node 0), pa, po (EE (c := c) (k := k) (p := x.q) hk), pk (As 3 x.q.num.sign 0), pa, pk (AO 3 x.fst 0)]
        ·by_cases g7 : x.nxt ≠ 0
         ·exact sr 115 [pk (Ae 3 x.kind 1), pk (Ae 3 x.kind 2), pk (Am 3 x.kind 3), pa, pa, pa, po (AJ x.node true h1), pa, po (AJ x.fst true h2), pa, po (AJ x.nxt true h3), pa, po (hc), pa, pk (As 3 x.node 0), pa, po (EE (c := c) (k := k) (p := x.q) hk), pk (As 3 x.q.num.sign 0), pa, pk (As 3 x.fst 0), pk (AO 3 x.nxt 0)]
         ·exfalso
          simp only [Decidable.not_not] at g4 g5 g6 g7;revert hw; unfold Bg; simp [h1, h2, h3, h4, g4, g5, g6, g7, hk3] <;> decide
 exact sr 115 [pk (Ae 3 x.kind 1), pk (Ae 3 x.kind 2), pk (Ae 3 x.kind 3), pa, pa, pa]
theorem X2 (x : Ch) (hk : k ≤ 1000) : Sp Tryz.prog I 14 [chK c k x] (.tu [.t (bI (Bl x).1), ci (Bl x).2]) ∧ (((Bl x).2 = 0 ∧ SpN Tryz.prog I 14 [chK c k x] (some [ci 0]) (bbx (Bl x).1)) ∨ ((Bl x).2 ≠ 0 ∧ (Bl x).1 = [] ∧ Sp Tryz.prog I 14 [chK c k x] (.tu [.one (.z), ci (Bl x).2]))) := by
 unfold Bl;cases hb : Bg x with
 | false =>
  rw [if_pos rfl];exact ⟨TB (RW x (by omega) hb), .inr ⟨by decide, rfl, RW x (by omega) hb⟩⟩
 | true =>
  rw [if_neg (by decide)]
  obtain ⟨n, hn, e1, h⟩ := KW hb;obtain ⟨kind, node, q, fst, nxt, cost⟩ := x;simp only at e1 h;subst e1;rcases h with ⟨rfl, rfl, rfl, rfl⟩ | ⟨rfl, hs, rfl, a, b, ha, hb', rfl, rfl⟩ | ⟨rfl, hs, rfl, rfl, h0, hz⟩
  ·obtain ⟨p1, p2⟩ := X1 (I := I) hn (BZ q) (KN q) (AaJ (fun h => Zo (c := c) q hk h))
   by_cases hl : 400 < (BZ q).length
   ·rw [if_pos ⟨rfl, hl⟩]
    exact ⟨TB (p2 hl), .inr ⟨by decide, rfl, p2 hl⟩⟩
   ·rw [if_neg (fun h => hl h.2)]
    exact ⟨(p1 (by omega)).1, .inl ⟨rfl, (p1 (by omega)).2⟩⟩
  ·rw [if_neg (fun h => by cases h.1)]
   have sg := EE (I := I) (c := c) (k := k) (p := q) (by omega)
   rw [hs] at sg;have := X0 hn ha hb' sg;rw [List.append_assoc] at this;exact ⟨this.1, .inl ⟨rfl, this.2⟩⟩
  ·rw [if_neg (fun h => by cases h.1)]
   have sg := EE (I := I) (c := c) (k := k) (p := q) (by omega)
   rw [hs] at sg;have := Xz h0 hz sg;exact ⟨this.1, .inl ⟨rfl, this.2⟩⟩
end
def Zf (l : List Nat) : Int := l.foldl (fun (a : Int) (c : Nat) => a * 10 + ((c : Int) - 48)) 0
def dv (s : List Nat) (i : Nat) : Int := if BK s then Zf ((s.take i).drop 1) else Zf (s.take i)
section
variable {I : WInv} {c c' : Bool} {k j : Nat} {p q : Rat}
theorem AaO {q' : Rat} (h : Lq q j) (e : q' = q) : CTle (fc true k q') (fc true j q) := by
 subst e;exact fun N w g v hv => JV h N w g v (VU N w g v hv)
end
theorem Xd (k : Nat) (hk : 0 < k) (rest : List It) : ILe (zl ++ rest) (.b (.it (fF false k 0)) :: rest) := by
 intro N w g l h;obtain ⟨l1, r1, e1, h1, l2, r2, e2, h2, l3, r3, e3, h3, l4, r4, e4, h4, h5⟩ := h;have h1 : l1 = [_] := h1;have h2 : l2 = [_] := h2;have h3 : l3 = [_] := h3;have h4 : l4 = [_] := h4;subst h1 h2 h3 h4 e4 e3 e2 e1;exact ⟨[.bool false, .slice none 0 0, .bool false, .slice none 0 0], r4, rfl, ⟨0, 0, [.bool false, .slice none 0 0], [.bool false, .slice none 0 0], rfl, O4 N w, O4 N w, by rw [KV]; rfl, hk, fun h => by cases h⟩, h5⟩
abbrev chL (k n a b z : Int) : CT := .ag [.i k, .i n, .o false, .z, .o false, .z, .i a, .i b, .i z]
theorem Aao (j : Nat) (hj : 0 < j) (k n a b z : Int) : CTle (chL k n a b z) (chK false j ⟨k, n, 0, a, b, z⟩) :=
 (ILe.cons XLe.refl (ILe.cons XLe.refl (Xd j hj _))).ag
theorem AaP {c : Bool} {j k : Nat} {q : Rat} (h : Lq q j) : XLe (.b (.it (fF true k q))) (.b (.it (fF c j q))) := by
 intro N w g l hl;have hv : (fc true k q).sem N w g (.agg l.toArray) := ⟨l, rfl, l, [], (List.append_nil l).symm, hl, rfl⟩;obtain ⟨vs, e, l1, l2, e2, h1, h2⟩ := VT (c := true) (c' := c) (k := j) (k' := j) (q := q) (fun _ => rfl) (Nat.le_refl _) rfl N w g _ (AaO h rfl N w g _ hv)
 have h2 : l2 = [] := h2;injection e with e;have e := congrArg Array.toList e;simp only at e;rw [e, e2, h2, List.append_nil];exact h1
theorem Aan {c : Bool} {j k : Nat} {x : Ch} (h : Lq x.q j) : CTle (chK true k x) (chK c j x) := (ILe.cons XLe.refl (ILe.cons XLe.refl (ILe.cons (AaP h) ILe.refl))).ag
abbrev c8 (z : Int) : CT := .one (.b (.lit (.int .u8 z)))
section
variable {I : WInv}
theorem Ya {xs : List Nat} (hx : B8 xs) : Sp Tryz.prog I 60 [c8 7, .t (bI xs)] (.tu [.t (bI (frame 7 xs).1), ci (frame 7 xs).2]) := by
 intro N w vs _ hN hv;obtain ⟨v, r, rfl, h, v2, r2, rfl, h2, h3⟩ := hv;have h : [v] = [.int .u8 7] := h;injection h with h;subst h;have h3 : r2 = [] := h3;subst h3;obtain ⟨A, c, e1, g1, g2, g3⟩ := Nu h2;injection e1 with e1;subst e1;exact (TT 7 w g1 hx (by omega)).mono fun e w' he => H9 he
theorem MD {xs : List Nat} (hx : B8 xs) (hl : xs.length ≤ 140737488355328) : Sp Tryz.prog I 26 [.t (bI xs)] (.tu [c8 ((By xs).1 : Nat), .t (bI (By xs).2.1), ci ((By xs).2.2.1 : Nat), ci ((By xs).2.2.2 : Nat)]) := by
 intro N w vs _ hN hv;obtain ⟨v, r, rfl, h, h'⟩ := hv;have h' : r = [] := h';subst h';obtain ⟨A, c, e1, h1, h2, h3⟩ := Nu h;injection e1 with e1;subst e1;refine (OA w h1 hx h2 hl h3).mono fun e w' ⟨v, he, ho⟩ => ?_
 subst he;exact ⟨_, rfl, ⟨_, rfl, _, _, rfl, rfl, _, _, rfl, QU ho, _, _, rfl, rfl, _, _, rfl, rfl, rfl⟩, ho.2⟩
end
set_option maxRecDepth 100000 in
theorem WH {A : Option Addr} {n c B : Nat} {xs : List Nat} (w : World) (r3 : Rd .u8 w B A n xs) (hx : ∀ x ∈ xs, x < 256) (hn : n ≤ 9223372036854775807) :
  Calls Tryz.prog 110 #[.slice A n c] w fun e w' => e = .returned (.int .u32 (crc xs : Nat)) ∧ w = w' := by
 have hl := r3.len;have HL := Lib.hid hl;clear hl;have Hx := Lib.hid hx;clear hx;go_enter Tryz.func110, Tryz.ntmps110
 go_wp2
 go_loop [3, 4, 5] (fun s i _ => ∃ k : Nat, k ≤ n ∧ i = .int .i64 k ∧ s = .int .u32 (D7 4294967295 (xs.take k) : Nat)) (fun _ i _ => n - (intOf i).toNat)
 case atStart => exact ⟨0, by omega, rfl, rfl⟩
 case round =>
  obtain ⟨k, hk, rfl, rfl⟩ := hrel;by_cases hlt : k < n
  ·obtain ⟨b, off, rfl, hbB, hc⟩ := r3.at_ hlt
   have HS := Lib.hid (Ky 4294967295 (xs.take k) (xs.getD k 0));have hs := Fp (xs.take k) 4294967295 (by omega) (fun x h => Hx.out x (List.mem_of_mem_take h))
   rw [← CE xs k (by rw [HL.out]; exact hlt)] at HS
   have hy := FE xs k 256 Hx.out (by omega)
   generalize D7 4294967295 (xs.take k) = s at *;generalize xs.getD k 0 = y at *;have e1 := u32_xor_nat s y hs (by omega)
   have hi : (s ^^^ y) < 4294967296 := Nat.xor_lt_two_pow (n := 32) hs (by omega)
   generalize s ^^^ y = z at *;go_wp2
   go_loop [3, 5] (fun r j => ∃ m : Nat, m ≤ 8 ∧ j = .int .i64 m ∧ r = .int .u32 (Bt m z : Nat)) (fun _ j => 8 - (intOf j).toNat)
   case atStart => exact ⟨0, by omega, rfl, rfl⟩
   case round =>
    obtain ⟨m, hm, rfl, rfl⟩ := hrel;have hlt := E0 (r := z) (by omega) m
    by_cases hm8 : m < 8
    ·obtain ⟨r, hr⟩ : ∃ r, r = Bt m z := ⟨_, rfl⟩
     rw [← hr] at hlt ⊢;have HT : Hid (Bt (m + 1) z = C5 r) := by rw [hr]; rfl
     clear hr;have hx := OC r hlt;have ha := MF r hlt;by_cases hp : r % 2 = 1
     ·have ha' : bits .and .u32 (r : Int) 1 = 1 := by rw [ha, hp]; rfl
      have HP := Lib.hid hp;clear ha hp;go_wp2
      go_round
      case rel => exact ⟨m + 1, by omega, by go_num, by rw [HT.out, C5, if_pos HP.out]⟩
      case measure => simp [intOf]; omega
     ·have ha' : bits .and .u32 (r : Int) 1 = 0 := by rw [ha, show r % 2 = 0 by omega]; rfl
      have HP := Lib.hid hp;clear ha hp;go_wp2
      go_round
      case rel => exact ⟨m + 1, by omega, by go_num, by rw [HT.out, C5, if_neg HP.out]; go_num⟩
      case measure => simp [intOf]; omega
    ·obtain rfl : m = 8 := by omega
     go_wp2
     go_round
     case rel => exact ⟨k + 1, by omega, by go_num, by rw [HS.out]⟩
     case measure => simp [intOf]; omega
  ·obtain rfl : k = n := by omega
   have hs := Fp (xs.take k) 4294967295 (by omega) (fun x h => Hx.out x (List.mem_of_mem_take h))
   rw [List.take_of_length_le (by rw [HL.out]; omega)] at hs ⊢
   have HC : Hid (crc xs = 4294967295 - D7 4294967295 xs) := rfl;generalize D7 4294967295 xs = s at *;go_wp2
   go_ret
   refine ⟨?_, rfl⟩;rw [HC.out, ← RF s hs]
   rfl
set_option maxRecDepth 100000 in
theorem Rp {A : Option Addr} {n c : Nat} {xs : List Nat} (kind : Nat) (w : World) (hr : Rd .u8 w w.heap.size A n xs) (hx : ∀ x ∈ xs, x < 256) (hk : kind < 256) (hn : n ≤ 1048576) :
  Calls Tryz.prog 62 #[.int .u8 kind, .slice A n c] w (Ms .u8 5 w (Bz kind xs)) := by
 have hl := hr.len;have hb := Eu hk hx (by omega)
 have hfl := Ha kind xs (by omega)
 have hel := AG (n := n) (by omega)
 have HF : Hid (Bz kind xs = AQ kind xs ++ DG (crc (AQ kind xs))) := rfl;have HH : Hid (AQ kind xs = [kind] ++ Aa n ++ xs) := by rw [← hl]; simp [AQ, Hid]
 have Hx := Lib.hid hx;have Hb := Lib.hid hb;have HL := Lib.hid hl;have hcl := Ov (AQ kind xs);clear hx hl hb;go_enter Tryz.func62, Tryz.ntmps62
 go_wp2_with fail
 have o0 := Own.new1 .u8 5 w kind (Below.refl _ _);refine (EX n _ (by omega)).mono ?_
 rintro e w1 ⟨v1, rfl, o1⟩;obtain ⟨A1, n1, c1, rfl, r1, hc1, hd1⟩ := o1.form';have hn1 : n1 ≤ 9 := by have := r1.len; omega
 have o2 := o0.later o1.2;clear o1 o0;go_wp2_with (at_builtin; refine Ay Tryz.elemU8w Tryz.underlying31 o2 r1 rfl rfl rfl rfl ?_ ?_ ?_)
 ·simp; omega
 ·simp; omega
 intro v4 w4 o4 _ _;clear o2;go_wp2_with (at_builtin; refine Ay Tryz.elemU8w Tryz.underlying31 o4 (hr.below o4.below) rfl rfl rfl rfl ?_ ?_ ?_)
 ·simp; omega
 ·simp; omega
 intro v5 w5 o5 _ _;clear o4;have o5' : Own .u8 5 w w5 v5 (AQ kind xs) := by rw [HH.out]; exact o5
 clear o5;obtain ⟨A5, n5, c5, rfl, r5, hc5, hd5⟩ := o5'.form';have hck := WH (c := c5) w5 r5 Hb.out (by omega)
 generalize crc (AQ kind xs) = sm at *;have HK := Lib.hid hck;clear hck;go_wp2_with fail
 refine HK.out.mono ?_;rintro e w6 ⟨rfl, rfl⟩;clear HK r5;go_wp2_with (at_builtin; refine Ay Tryz.elemU8w Tryz.underlying31 (o5'.alloc _) (Rd.block .u8 _ 5 _ (DG sm) _ ?_) rfl rfl rfl rfl ?_ ?_ ?_)
 ·exact Ll hcl
 ·simp [DG]; omega
 ·simp [DG]; omega
 intro v7 w7 o7 _ _;clear o5';go_wp2
 go_ret
 exact ⟨v7, rfl, by rw [HF.out]; exact o7⟩
section
variable {I : WInv}
theorem TU (kind : Nat) (hk : kind < 256) {xs : List Nat} (hx : B8 xs) (hl : xs.length ≤ 1048576) : Sp Tryz.prog I 62 [c8 (kind : Int), .t (bI xs)] (tit (bI (Bz kind xs))) := by
 intro N w vs _ hN hv;obtain ⟨v, r, rfl, h, v2, r2, rfl, h2, h3⟩ := hv;have h : [v] = [.int .u8 (kind : Int)] := h;injection h with h;subst h;have h3 : r2 = [] := h3;subst h3;obtain ⟨A, c, e1, g1, g2, g3⟩ := Nu h2;injection e1 with e1;subst e1;exact (Rp kind w g1 hx hk hl).mono fun e w' he => H8 he
end
section
variable {P : Program}
theorem Aaw (t : TypeId) (x y : Int) (b : Bool) (h : (!decide (x = y)) = b) : BA P (.bin .neq t) [l8 x, l8 y] (lb b) := BU (vs := [.int .u8 x, .int .u8 y]) fun w => by subst h; simp [OpK.run, eqGuard, binOp, Op.intCmp]; rfl
theorem Ru (w : World) (d : Nat) {t e : TypeId} {c : Nat} (ht : P.underlying t = some (.slice e)) : (Op.equalIn (d + 1) t (.slice none 0 c) (.slice none 0 0)).run P w = .ok true w := by
 simp [Op.equalIn, AR ht]
theorem XK {t e : TypeId} (c : Nat) (ht : P.underlying t = some (.slice e)) : BA P (.bin .eql t) [Cg (.slice none 0 c), Cg (.slice none 0 0)] (lb true) := by
 intro N w g vs hv;obtain ⟨v, x, rfl, h1, h2⟩ := Fu hv;have h1 : [v] = [.slice none 0 c] := h1;have h2 : [x] = [.slice none 0 0] := h2;injection h1 with h1;injection h2 with h2;subst h1 h2;refine ⟨.bool true, w, ?_, Below.refl _ _, (rfl : [_] = [_])⟩;have key : (Op.equal t (.slice none 0 c) (.slice none 0 0)).run P w = .ok true w := Ru w 9999 ht;simp only [OpK.run, Sem.run_bind, eqGuard];simp [binOp, key]
end
def bS (xs : List Nat) : Item where
 n := 1
 T := fun N w l => (bI xs).T N w l ∧ ∃ a n c, l = [.slice (some a) n c]
 step := fun hw hN ⟨h, h2⟩ => ⟨(bI xs).step hw hN h, h2⟩
 len := fun ⟨h, _⟩ => (bI xs).len h
 one := fun ⟨h, _⟩ => (bI xs).one h
theorem AaU (xs : List Nat) : BA Tryz.prog (.bin .eql 31) [tit (bS xs), Cg (.slice none 0 0)] (lb false) := by
 intro N w g vs hv;obtain ⟨v, x, rfl, ⟨_, a, n, c, e1⟩, h2⟩ := Fu hv;injection e1 with e1;subst e1;have h2 : [x] = [.slice none 0 0] := h2;injection h2 with h2;subst h2;refine ⟨.bool false, w, ?_, Below.refl _ _, (rfl : [_] = [_])⟩;have key : (Op.equal 31 (.slice (some a) n c) (.slice none 0 0)).run Tryz.prog w = .ok false w := Ou w 9999 (e := 5) (by kernel_rfl)
 simp only [OpK.run, Sem.run_bind, eqGuard];simp [binOp, key]
theorem Aav (xs : List Nat) : SJ 1 (bS xs) (xs.map Af).length (xs.map Af).flatten := fun N w l h => Ci Bm (AT _) N w l h.1
section
variable {I : WInv}
theorem SpN.nil {P : Program} {f : FuncId} {args : List CT} (T s : Nat) (h : Sp P I f args (Cg (.slice none 0 0))) : SpN P I f args none ⟨T, some (s, 0), []⟩ := by
 refine ⟨rfl, fun N w vs a1 a2 hv => (h N w vs a1 a2 hv).mono ?_⟩
 rintro en w' ⟨v, e1, e2, e3⟩;have e2 : [v] = [.slice none 0 0] := e2;injection e2 with e2;subst e2;exact ⟨_, N, none, 0, 0, e1, fun b hb => hb, fun b hb => .inl hb, ⟨none, 0, 0, rfl, rfl⟩, ⟨_, rfl, .inl ⟨s, 0, rfl, rfl, rfl, rfl⟩⟩, e3⟩
theorem Yx {xs : List Nat} (hl : xs.length ≤ 1000000000) : SpN Tryz.prog I 61 [.t (bI xs)] none (bbx xs) := by
 have hlm : (xs.map Af).length = xs.length := List.length_map _;have h1 : SpN Tryz.prog I 61 [.t (bS xs)] none ⟨5, some (1, 0 + (xs.map Af).length), Ad (xs.map Af)⟩ := sn 8 5 [pk (AaU xs), ⟨.src 1 (bS xs) (xs.map Af).length (xs.map Af).flatten, Aav xs⟩, ⟨.ap 0 ((xs.map Af).length) 1, ⟨by omega, by simp [maxLen]; omega⟩⟩] (Au _)
 rw [Nat.zero_add, hlm] at h1;have h2 : ∀ c, SpN Tryz.prog I 61 [.one (.b (.lit (.slice none 0 c)))] none ⟨5, some (1, 0), []⟩ := fun c => SpN.nil _ _ (sr 8 [pk (XK (t := 31) c (e := 5) (by kernel_rfl))])
 refine ⟨h1.1, fun N w vs a1 a2 hv => ?_⟩
 obtain ⟨v, r, rfl, h, h'⟩ := hv;obtain ⟨A, c, e, k1, k2, k3⟩ := h;cases A with
 | some a => exact h1.2 N w _ a1 a2 ⟨_, _, rfl, ⟨⟨_, c, e, k1, k2, k3⟩, a, _, c, e⟩, h'⟩
 | none =>
  have hx : xs = [] := by
   cases xs with
   | nil => rfl
   | cons x t => obtain ⟨b, off, h, _⟩ := k3 (fun h => by cases h); cases h
  subst hx;exact (h2 c).2 N w _ a1 a2 ⟨_, _, rfl, e, h'⟩
end
def FD (b : List Nat) (x : Ch) : List Nat × Int := if (Bl x).2 = 0 then (b ++ Bz 7 (Bl x).1, 0) else ([], (Bl x).2)
theorem LT (x : Ch) (h : (Bl x).2 = 0) : frame 7 (Bl x).1 = (Bz 7 (Bl x).1, 0) ∧ (Bz 7 (Bl x).1).length ≤ 1000 := by
 have hl := Gl x;have h9 := AG (n := (Bl x).1.length) (by omega)
 refine ⟨by unfold frame; rw [if_pos (by omega)], ?_⟩
 rw [FF];omega
theorem PS (x : Ch) : B8 (Bz 7 (Bl x).1) := by
 have hl := Gl x;intro y hy;unfold Bz at hy;rcases List.mem_append.1 hy with h | h
 ·exact Eu (by omega) (Jk x) (by omega) y h
 ·exact Tc _ y h
theorem XV {b : List Nat} (h : B8 b) (x : Ch) : B8 (FD b x).1 := by
 unfold FD;split
 ·exact h.app (PS x)
 ·exact fun x hx => by cases hx
section
variable {I : WInv} {c : Bool} {k : Nat}
theorem Q1 (b : List Nat) (hb : b.length ≤ 1000000000) (x : Ch) (hk : k ≤ 1000) : Sp Tryz.prog Dr 22 [.t (bI b), chK c k x] (.tu [.t (bI (FD b x).1), ci (FD b x).2]) := by
 have hE := VV (c := c) (k := k) x hk;have hF := Ya (I := Dr) (Jk x);unfold FD;by_cases h : (Bl x).2 = 0
 ·obtain ⟨f1, f2⟩ := LT x h
  rw [f1] at hF;rw [h] at hE;rw [if_pos h];simp only at hF ⊢;generalize Bz 7 (Bl x).1 = f at *;generalize (Bl x).1 = e at *;exact sr 29 [po (hE), pa, po (hF), pa, pon (Yx (xs := b) (by omega)), ⟨.src 1 (bI f) ((f).map Af).length ((f).map Af).flatten, Ci Bm (AT _)⟩, ⟨.ap ((b).length) (((f).map Af).length) 1, ⟨by simp; omega, by simp [maxLen]; omega⟩⟩, pm ((show Leads Dr _ ⟨[(4, .s 24), (5, .i 0)], [(24, some ⟨5, some (1, (b).length + ((f).map Af).length), (Ad ((b).map Af)) ++ (((f).map Af).flatten.map It.b)⟩)], 27⟩ ⟨[(4, .s 24), (5, .i 0)], [(24, some ⟨5, some (1, (b ++ f).length), Ad ((b ++ f).map Af)⟩)], 27⟩ from AK [] ⟨rfl, TVle.refl, rfl, TVle.refl, trivial⟩ ⟨rfl, rfl, (congrArg (fun m => some (1, m)) (show (b).length + ((f).map Af).length = (b ++ f).length by simp only [List.length_append, List.length_map] <;> omega)), ILe.eq (show (Ad ((b).map Af)) ++ (((f).map Af).flatten.map It.b) = Ad ((b ++ f).map Af) from by simp [Ad]), trivial⟩ (hnp := ⟨fun _ => BI (Au _) (Au _), trivial⟩))), pm (AV (I := Dr) (t := 4) (k := 24) (E := [(5, .i 0)]) (B := []) (nx := 27) (T := 5) (sz := 1) (n := ((b ++ f).length)) ((b ++ f).map Af) rfl (by simp) Bm rfl)]
 ·rw [if_neg h]
  simp only;generalize (Bl x).2 = r at *;generalize (Bl x).1 = e at *;exact TB (sr 29 [po (hE), pk (AO 32 r 0)])
theorem XU {b : List Nat} {x : Ch} (h : (FD b x).2 = 0) : (Bl x).2 = 0 ∧ FD b x = (b ++ Bz 7 (Bl x).1, 0) := by
 unfold FD at h ⊢;by_cases he : (Bl x).2 = 0
 ·exact ⟨he, by rw [if_pos he]⟩
 ·rw [if_neg he] at h; exact absurd h he
theorem MQ (b : List Nat) (hb : b.length ≤ 1000000000) (x : Ch) (hk : k ≤ 1000) : Sp Tryz.prog I 23 [.t (bI b), chK c k x] (.tu [.t (bI (FD b x).1), ci (FD b x).2]) := by
 have hE := (X2 (I := I) (c := c) (k := k) x hk).1;have hl := Gl x;have hF := TU (I := I) 7 (by omega) (Jk x) (by omega)
 have hF : Sp Tryz.prog I 62 [c8 7, .t (bI (Bl x).1)] (tit (bI (Bz 7 (Bl x).1))) := hF;unfold FD;by_cases h : (Bl x).2 = 0
 ·obtain ⟨f1, f2⟩ := LT x h
  rw [h] at hE;rw [if_pos h];simp only;clear f1;generalize Bz 7 (Bl x).1 = f at *;generalize (Bl x).1 = e at *;exact sr 21 [po (hE), pa, ⟨.src 1 (bI b) ((b).map Af).length ((b).map Af).flatten, Ci Bm (AT _)⟩, ⟨.ap 0 (((b).map Af).length) 1, ⟨by simp; omega, by simp [maxLen]; omega⟩⟩, po (hF), ⟨.src 1 (bI f) ((f).map Af).length ((f).map Af).flatten, Ci Bm (AT _)⟩, ⟨.ap (((b).map Af).length) (((f).map Af).length) 1, ⟨by simp; omega, by simp [maxLen]; omega⟩⟩, pm ((show Leads I _ ⟨[(4, .s 16), (5, .i 0)], [(16, some ⟨5, some (1, ((b).map Af).length + ((f).map Af).length), (((b).map Af).flatten.map It.b) ++ (((f).map Af).flatten.map It.b)⟩)], 19⟩ ⟨[(4, .s 16), (5, .i 0)], [(16, some ⟨5, some (1, (b ++ f).length), Ad ((b ++ f).map Af)⟩)], 19⟩ from AK [] ⟨rfl, TVle.refl, rfl, TVle.refl, trivial⟩ ⟨rfl, rfl, (congrArg (fun m => some (1, m)) (show ((b).map Af).length + ((f).map Af).length = (b ++ f).length by simp only [List.length_append, List.length_map] <;> omega)), ILe.eq (show (((b).map Af).flatten.map It.b) ++ (((f).map Af).flatten.map It.b) = Ad ((b ++ f).map Af) from by simp [Ad]), trivial⟩ (hnp := ⟨fun _ => BI (Au _) (Au _), trivial⟩))), pm (AV (I := I) (t := 4) (k := 16) (E := [(5, .i 0)]) (B := []) (nx := 19) (T := 5) (sz := 1) (n := ((b ++ f).length)) ((b ++ f).map Af) rfl (by simp) Bm rfl)]
 ·rw [if_neg h]
  simp only;clear hF hl;generalize (Bl x).2 = r at *;generalize (Bl x).1 = e at *;exact TB (sr 21 [po (hE), pk (AO 32 r 0)])
end
def ch0 : Ch := ⟨0, 0, 0, 0, 0, 0⟩
def cat (L : List Ch) (i : Nat) : Ch := L.getD i ch0
theorem Fs {L : List Ch} {i : Nat} (h : i < L.length) : L[i]? = some (cat L i) := by unfold cat; rw [List.getD_eq_getElem?_getD, List.getElem?_eq_getElem h]; rfl
theorem Y8 {L : List Ch} {i : Nat} {f : Ch → List It0} (h : i < L.length) : (L.map f)[i]? = some (f (cat L i)) := map_some (Fs h)
def jfr (b : List Nat) (a : Nat) (y : Ch) (e : Nat) : Prop := ∃ body used, By (b.drop a) = (7, body, used, 0) ∧ Bl y = (body, 0) ∧ e = a + used
structure Jr (b : List Nat) (cs : List Ch) (p : Nat → Nat) : Prop where
 st : ∀ i, i < cs.length → jfr b (p i) (cat cs i) (p (i + 1))
 en : ∀ y e, ¬ jfr b (p cs.length) y e
theorem U7 {xs : List Nat} (h : (By xs).2.2.2 = 0) : 0 < (By xs).2.2.1 ∧ (By xs).2.2.1 ≤ xs.length := by
 unfold By at h ⊢;split
 ·rename_i h0; rw [if_pos h0] at h; cases h
 ·rename_i h0
  rw [if_neg h0] at h;split
  ·rename_i h1; rw [if_pos h1] at h; exact absurd h h1
  ·rename_i h1
   rw [if_neg h1] at h;split
   ·rename_i h2; rw [if_pos h2] at h; cases h
   ·rename_i h2
    rw [if_neg h2] at h;split
    ·rename_i h3; rw [if_pos h3] at h; cases h
    ·rename_i h3
     rw [if_neg h3] at h;split
     ·simp only; omega
     ·rename_i h4; rw [if_neg h4] at h; cases h
theorem V8 {b : List Nat} {a : Nat} {y : Ch} {e : Nat} (h : jfr b a y e) : a < e ∧ e ≤ b.length := by
 obtain ⟨body, used, h1, _, rfl⟩ := h;have := U7 (xs := b.drop a) (by rw [h1])
 rw [h1, List.length_drop] at this;simp only at this;omega
theorem Jr.mono {b : List Nat} {cs : List Ch} {p : Nat → Nat} (h : Jr b cs p) (h0 : p 0 = 0) : ∀ i, i ≤ cs.length → i ≤ p i ∧ p i ≤ b.length
 | 0, _ => by rw [h0]; omega
 | i + 1, hi => by
  have := h.mono h0 i (by omega)
  have := V8 (h.st i (by omega))
  omega
abbrev Cn (c : Bool) (k : Nat) (x : Ch) : List It0 := [.lit (.int .i64 x.kind), .lit (.int .i64 x.node), .it (fF c k x.q), .lit (.int .i64 x.fst), .lit (.int .i64 x.nxt), .lit (.int .i64 x.cost)]
theorem Va {c : Bool} {k : Nat} {L : List Ch} : ∀ r ∈ L.map (Cn c k), BS r = 9 := by
 intro r hr;obtain ⟨x, _, rfl⟩ := List.mem_map.1 hr
 rfl
abbrev csI (c : Bool) (k : Nat) (L : List Ch) : Item := slI 9 (L.map (Cn c k))
abbrev cbx (c : Bool) (k : Nat) (L : List Ch) : Ent := ⟨28, some (9, L.length), Ad (L.map (Cn c k))⟩
abbrev lbx (k : Nat) : Ent := ⟨39, none, [.sl k]⟩
abbrev ibx (z : Int) : Ent := ⟨3, none, [.i z]⟩
section
variable {I : WInv} {nt : Nat}
theorem QZ {E : Env} {B : Bxs} {k nx T T2 s : Nat} : Leads I nt ⟨E, (k, some ⟨T, none, [.z]⟩) :: B, nx⟩ ⟨E, (nx, some ⟨T2, some (s, 0), []⟩) :: (k, some ⟨T, none, [.sl nx]⟩) :: B, nx + 1⟩ := by
 rintro N0 w0 a w ⟨N, g, h1, h2⟩;have hfr : g nx = none := h2 nx (Nat.le_refl _);have hx := Cu (v := .sl none 0 0) hfr;have old : ∀ j e, nx ≠ j → Aw ((nx, some ⟨T2, some (s, 0), []⟩) :: (k, some ⟨T, none, [.sl nx]⟩) :: B) j = some e → ∃ e', Aw ((k, some ⟨T, none, [.z]⟩) :: B) j = some e' := by
  intro j e hj he;rw [Ba, if_neg hj, Ba] at he;rw [Ba];by_cases hk : k = j
  ·rw [if_pos hk]; exact ⟨_, rfl⟩
  ·rw [if_neg hk] at he ⊢; exact ⟨e, he⟩
 refine ⟨N, upg g nx (.sl none 0 0), { h1 with slots := ?_, boxes := ?_, inj := ?_, rig := fun k v hv => hx k v (h1.rig k v hv) }, ?_⟩
 ·intro q v hv
  exact TV.step (h1.slots q v hv) (WStep.refl _ _) (fun _ h => h) hx
 ·intro j e he
  rw [Ba] at he;by_cases hk : nx = j
  ·subst hk
   rw [if_pos rfl] at he;injection he with he;subst he;exact ⟨_, Ce, .inl ⟨s, 0, rfl, rfl, rfl, rfl⟩⟩
  ·rw [if_neg hk, Ba] at he
   by_cases hj : k = j
   ·subst hj
    rw [if_pos rfl] at he;injection he with he;subst he;have hb := h1.boxes k ⟨T, none, [.z]⟩ (by rw [Ba, if_pos rfl])
    have hb := hb.keep (WStep.refl _ _) (fun _ h => h) (fun b hb2 => hb.notN hb2) (fun b hb => rfl) hx
    obtain ⟨gv, r1, r2⟩ := hb;refine ⟨gv, r1, ?_⟩;rcases r2 with ⟨s', n', q1, _⟩ | ⟨b, cs, l, q1, q2, q3, q4⟩
    ·cases q1
    ·refine .inr ⟨b, cs, l, q1, q2, ?_, q4⟩
     obtain ⟨l1, l2, e1, e2, e3⟩ := q3;have e2 : l1 = [.slice none 0 0] := e2;subst e2;exact ⟨_, _, e1, ⟨none, 0, 0, Ce, rfl⟩, e3⟩
   ·rw [if_neg hj] at he
    have hb := h1.boxes j e (by rw [Ba, if_neg hj]; exact he)
    exact hb.keep (WStep.refl _ _) (fun _ h => h) (fun b hb2 => hb.notN hb2) (fun b hb => rfl) hx
 ·intro i j e e' b q1 q2 q3 q4
  by_cases hk : nx = i
  ·subst hk
   rw [DU] at q3;cases q3
  ·by_cases hj : nx = j
   ·subst hj
    rw [DU] at q4;cases q4
   ·obtain ⟨f1, p1⟩ := old i e hk q1
    obtain ⟨f2, p2⟩ := old j e' hj q2;unfold AF at q3 q4;rw [C2 (Ne.symm hk)] at q3;rw [C2 (Ne.symm hj)] at q4;exact h1.inj i j f1 f2 b p1 p2 q3 q4
 ·intro k hk
  change nx + 1 ≤ k at hk
  show upg g nx _ k = none;rw [C2 (by omega : k ≠ nx)]
  exact h2 k (show nx ≤ k by omega)
end
section
variable {I : WInv} {k : Nat}
theorem Vj (L : List Ch) (hl : L.length ≤ 1000000000) (x : Ch) (e u : Int) : SpM Tryz.prog I 64 [(0, some (lbx 2)), (1, some (ibx u)), (2, some (cbx true k L))] [chK true k x, ci e, .one (.ptr 0 0), .one (.ptr 1 0)] [(0, some (lbx 2)), (1, some (ibx e)), (2, some (cbx true k (L ++ [x])))] (lb true) :=
 sm 12 [⟨.ap ((L).length) 1 104, ⟨by omega, by simp [maxLen]; omega⟩⟩, pm ((show Leads I _ ⟨[(1, .i e), (3, .p 1 0)], [(0, some ⟨39, none, [.sl 8]⟩), (1, some ⟨3, none, [.i u]⟩), (8, some ⟨28, some (9, (L).length + 1), (Ad ((L).map (Cn true k))) ++ ([.i x.kind, .i x.node, .b (.it (fF true k x.q)), .i x.fst, .i x.nxt, .i x.cost])⟩)], 10⟩ ⟨[(1, .i e), (3, .p 1 0)], [(0, some ⟨39, none, [.sl 2]⟩), (1, some ⟨3, none, [.i u]⟩), (2, some ⟨28, some (9, (L ++ [x]).length), Ad (((L ++ [x])).map (Cn true k))⟩)], 10⟩ from AK [(2, 8)] ⟨rfl, TVle.refl, rfl, TVle.refl, trivial⟩ ⟨rfl, rfl, rfl, ILe.refl, rfl, rfl, rfl, ILe.refl, rfl, rfl, (congrArg (fun m => some (9, m)) (show (L).length + 1 = (L ++ [x]).length by simp)), ILe.eq (show (Ad ((L).map (Cn true k))) ++ ([.i x.kind, .i x.node, .b (.it (fF true k x.q)), .i x.fst, .i x.nxt, .i x.cost]) = Ad (((L ++ [x])).map (Cn true k)) from by simp [Ad]), trivial⟩))]
end
theorem ZS {j : Nat} {y : Ch} {b : List Nat} (hy : Bl y = (b, 0)) (hj : Lq y.q j) : Sp Tryz.prog At 16 [.t (bI b)] (.tu [chK true j y, ci 0]) := (TP hy).rs (OF ⟨Aan hj, CTle.refl, trivial⟩)
theorem Zn {xs : List Nat} (h : B8 xs) : B8 (By xs).2.1 := by
 unfold By;split
 ·exact fun x hx => by cases hx
 ·split
  ·exact fun x hx => by cases hx
  ·split
   ·exact fun x hx => by cases hx
   ·split
    ·exact fun x hx => by cases hx
    ·split
     ·exact (h.drop _).take _
     ·exact fun x hx => by cases hx
theorem Aa0 {a used e : Nat} (h : e = a + used) (hb : e ≤ 4611686018427387904) : BA Tryz.prog (.bin .add 3) [li (a : Int), li (used : Int)] (li (e : Int)) := by
 have := Bd (P := Tryz.prog) 3 (a : Int) (used : Int) ⟨by omega, by omega⟩
 rwa [show (a : Int) + (used : Int) = (e : Int) by omega] at this
section
variable {k : Nat}
def est (k : Nat) (b : List Nat) (a : Int) (L : List Ch) (u : Int) : Go.Proofs.YtdgbealknnmkoaaGreatDoor.St := ⟨[(0, .t (slI 1 ((b).map (Af)))), (1, .cv (.one (.clo 64 [(0, 0), (1, 0)]))), (4, .i a)], [(0, some ⟨39, none, [.sl 2]⟩), (1, some ⟨3, none, [.i u]⟩), (2, some ⟨28, some (9, (L).length), Ad ((L).map (Cn true k))⟩)], 50⟩
def Yh (k : Nat) (L : List Ch) (u : Int) : Go.Proofs.YtdgbealknnmkoaaGreatDoor.St := ⟨[], [(0, some ⟨39, none, [.sl 2]⟩), (1, some ⟨3, none, [.i u]⟩), (2, some ⟨28, some (9, (L).length), Ad ((L).map (Cn true k))⟩)], 50⟩
theorem Yi (b : List Nat) (hb : B8 b) (hl : b.length ≤ 1000000000) (a : Nat) (L : List Ch) (hL : L.length ≤ 1000000000) (u : Int) (y : Ch) (e : Nat) (h : jfr b a y e) (hk : Lq y.q k) :
  Rnd Tryz.prog At 44 (Bn Tryz.prog 63 0) (est k b (a : Int) L u) .normal (est k b (e : Int) (L ++ [y]) (e : Int)) := by
 have hlt := V8 h;obtain ⟨body, used, h1, h2, h3⟩ := h;have hU := MD (I := At) (hb.drop a) (by rw [List.length_drop]; omega)
 rw [h1] at hU;have hU : Sp Tryz.prog At 26 _ (.tu [c8 7, .t (bI body), ci (used : Int), ci 0]) := hU;have hD := ZS h2 hk;have hA := Aa0 h3 (by omega)
 have hC := Vj (I := At) (k := k) L hL y (e : Int) u;exact Rnd.nam [(2, 90)] (show Rnd _ _ _ _ _ _ ⟨[(0, .t (slI 1 ((b).map (Af)))), (1, .cv (.one (.clo 64 [(0, 0), (1, 0)]))), (4, .i (e : Int))], [(0, some ⟨39, none, [.sl 90]⟩), (1, some ⟨3, none, [.i (e : Int)]⟩), (90, some ⟨28, some (9, ((L ++ [y])).length), Ad (((L ++ [y])).map (Cn true k))⟩)], 92⟩ from rr [pk (AY 31 5 3 1 ((b).map (Af)) ((b).length : Int)), pk (AA 3 (a : Int) ((b).length : Int)), pk (J3 b a _ rfl (by omega)), po (hU), pa, pa, po (hD), pa, pk (hA), pom [0, 1, 2] (hC), pa]) (t := ⟨[(0, .t (slI 1 ((b).map (Af)))), (1, .cv (.one (.clo 64 [(0, 0), (1, 0)]))), (4, .i (e : Int))], [(0, some ⟨39, none, [.sl 2]⟩), (1, some ⟨3, none, [.i (e : Int)]⟩), (2, some ⟨28, some (9, ((L ++ [y])).length), Ad (((L ++ [y])).map (Cn true k))⟩)], 50⟩) ⟨rfl, TVle.refl, rfl, TVle.refl, rfl, TVle.refl, trivial⟩ ⟨rfl, rfl, rfl, ILe.refl, rfl, rfl, rfl, ILe.refl, rfl, rfl, rfl, ILe.refl, trivial⟩
theorem Uc (b : List Nat) (hb : B8 b) (hl : b.length ≤ 1000000000) (a : Nat) (ha : a ≤ b.length) (L : List Ch) (u : Int) (h : ∀ y e, ¬ jfr b a y e) :
  Rnd Tryz.prog At 44 (Bn Tryz.prog 63 0) (est k b (a : Int) L u) (.exit 0) (Yh k L u) ∨ Rnd Tryz.prog At 44 (Bn Tryz.prog 63 0) (est k b (a : Int) L u) .ret (Yh k L u) := by
 by_cases hab : a < b.length
 ·right
  have hU := MD (I := At) (hb.drop a) (by rw [List.length_drop]; omega)
  have hb8 := Zn (hb.drop a);have hj : ∀ body used, By (b.drop a) = (7, body, used, 0) → ∀ y, Bl y ≠ (body, 0) := fun body used h1 y h2 => h y _ ⟨body, used, h1, h2, rfl⟩
  have hbl : (By (b.drop a)).2.1.length ≤ 1000000000 := by
   unfold By;split
   ·simp
   ·split
    ·simp
    ·split
     ·simp
     ·split
      ·simp
      ·split
       ·simp only [List.length_take, List.length_drop]; omega
       ·simp
  generalize By (b.drop a) = r at *;obtain ⟨kd, body, used, o⟩ := r;simp only at hU hb8 hbl;by_cases ho : o = 0
  ·subst ho
   have hU : Sp Tryz.prog At 26 _ (.tu [c8 (kd : Int), .t (bI body), ci (used : Int), ci 0]) := hU;by_cases hk7 : kd = 7
   ·subst hk7
    have hU : Sp Tryz.prog At 26 _ (.tu [c8 7, .t (bI body), ci (used : Int), ci 0]) := hU;have hD := V9 hb8 (hj body used rfl);exact Rnd.nam [] (show Rnd _ _ _ _ _ _ ⟨[], [(0, some ⟨39, none, [.sl 2]⟩), (1, some ⟨3, none, [.i u]⟩), (2, some ⟨28, some (9, (L).length), Ad ((L).map (Cn true k))⟩)], 83⟩ from rr [pk (AY 31 5 3 1 ((b).map (Af)) ((b).length : Int)), pk (AA 3 (a : Int) ((b).length : Int)), pk (J3 b a _ rfl (by omega)), po (hU), pa, pa, po (hD), pa]) (t := ⟨[], [(0, some ⟨39, none, [.sl 2]⟩), (1, some ⟨3, none, [.i u]⟩), (2, some ⟨28, some (9, (L).length), Ad ((L).map (Cn true k))⟩)], 50⟩) trivial ⟨rfl, rfl, rfl, ILe.refl, rfl, rfl, rfl, ILe.refl, rfl, rfl, rfl, ILe.refl, trivial⟩
   ·have hq : (!decide ((kd : Int) = 7)) = true := by rw [decide_eq_false (by omega)]; rfl
    exact Rnd.nam [] (show Rnd _ _ _ _ _ _ ⟨[], [(0, some ⟨39, none, [.sl 2]⟩), (1, some ⟨3, none, [.i u]⟩), (2, some ⟨28, some (9, (L).length), Ad ((L).map (Cn true k))⟩)], 73⟩ from rr [pk (AY 31 5 3 1 ((b).map (Af)) ((b).length : Int)), pk (AA 3 (a : Int) ((b).length : Int)), pk (J3 b a _ rfl (by omega)), po (hU), pa, pk (Aaw 5 (kd : Int) 7 true hq)]) (t := ⟨[], [(0, some ⟨39, none, [.sl 2]⟩), (1, some ⟨3, none, [.i u]⟩), (2, some ⟨28, some (9, (L).length), Ad ((L).map (Cn true k))⟩)], 50⟩) trivial ⟨rfl, rfl, rfl, ILe.refl, rfl, rfl, rfl, ILe.refl, rfl, rfl, rfl, ILe.refl, trivial⟩
  ·exact Rnd.nam [] (show Rnd _ _ _ _ _ _ ⟨[], [(0, some ⟨39, none, [.sl 2]⟩), (1, some ⟨3, none, [.i u]⟩), (2, some ⟨28, some (9, (L).length), Ad ((L).map (Cn true k))⟩)], 73⟩ from rr [pk (AY 31 5 3 1 ((b).map (Af)) ((b).length : Int)), pk (AA 3 (a : Int) ((b).length : Int)), pk (J3 b a _ rfl (by omega)), po (hU), pk (AO 32 (o : Int) 0)]) (t := ⟨[], [(0, some ⟨39, none, [.sl 2]⟩), (1, some ⟨3, none, [.i u]⟩), (2, some ⟨28, some (9, (L).length), Ad ((L).map (Cn true k))⟩)], 50⟩) trivial ⟨rfl, rfl, rfl, ILe.refl, rfl, rfl, rfl, ILe.refl, rfl, rfl, rfl, ILe.refl, trivial⟩
 ·left
  exact Rnd.nam [] (show Rnd _ _ _ _ _ _ ⟨[], [(0, some ⟨39, none, [.sl 2]⟩), (1, some ⟨3, none, [.i u]⟩), (2, some ⟨28, some (9, (L).length), Ad ((L).map (Cn true k))⟩)], 54⟩ from rr [pk (AY 31 5 3 1 ((b).map (Af)) ((b).length : Int)), pk (An 3 (a : Int) ((b).length : Int))]) (t := ⟨[], [(0, some ⟨39, none, [.sl 2]⟩), (1, some ⟨3, none, [.i u]⟩), (2, some ⟨28, some (9, (L).length), Ad ((L).map (Cn true k))⟩)], 50⟩) trivial ⟨rfl, rfl, rfl, ILe.refl, rfl, rfl, rfl, ILe.refl, rfl, rfl, rfl, ILe.refl, trivial⟩
theorem Mk {L : List Ch} {i : Nat} (h : i < L.length) : L.take (i + 1) = L.take i ++ [cat L i] := by
 rw [List.take_add_one, Fs h]; rfl
theorem Ue (b : List Nat) (hb : B8 b) (hl : b.length ≤ 1000000000) {cs : List Ch} {p : Nat → Nat} (hj : Jr b cs p) (h0 : p 0 = 0) (hk : ∀ i, i < cs.length → Lq (cat cs i).q k) :
  LoopTr Tryz.prog At 44 (Bn Tryz.prog 63 0) (est k b 0 [] 0) (.exit 0) (Yh k cs (p cs.length : Int)) ∨ LoopTr Tryz.prog At 44 (Bn Tryz.prog 63 0) (est k b 0 [] 0) .ret (Yh k cs (p cs.length : Int)) := by
 have hm := hj.mono h0;have step : ∀ i, i < cs.length → Rnd Tryz.prog At 44 (Bn Tryz.prog 63 0) (est k b (p i : Int) (cs.take i) (p i : Int)) .normal (est k b (p (i + 1) : Int) (cs.take (i + 1)) (p (i + 1) : Int)) := fun i hi => by
  have h1 := hm i (by omega)
  have h2 := hm cs.length (Nat.le_refl _);rw [Mk hi];exact Yi b hb hl (p i) (cs.take i) (by rw [List.length_take]; omega) _ (cat cs i) _ (hj.st i hi) (hk i hi)
 have s0 : est k b (p 0 : Int) (cs.take 0) (p 0 : Int) = est k b 0 [] 0 := by rw [h0]; rfl
 have hend := Uc (k := k) b hb hl (p cs.length) (hm _ (Nat.le_refl _)).2 cs (p cs.length : Int) hj.en;rw [← s0];have e1 : est k b (p cs.length : Int) (cs.take cs.length) (p cs.length : Int) = est k b (p cs.length : Int) cs (p cs.length : Int) := by rw [List.take_length]
 rcases hend with h | h
 ·left
  exact CR (by simp) (fun i => est k b (p i : Int) (cs.take i) (p i : Int)) cs.length step (by show Rnd _ _ _ _ (est k b (p cs.length : Int) (cs.take cs.length) (p cs.length : Int)) _ _; rw [e1]; exact h)
 ·right
  exact CR (by simp) (fun i => est k b (p i : Int) (cs.take i) (p i : Int)) cs.length step (by show Rnd _ _ _ _ (est k b (p cs.length : Int) (cs.take cs.length) (p cs.length : Int)) _ _; rw [e1]; exact h)
theorem Ud (b : List Nat) (hb : B8 b) (hl : b.length ≤ 1000000000) {cs : List Ch} {p : Nat → Nat} (hj : Jr b cs p) (h0 : p 0 = 0) (hk : ∀ i, i < cs.length → Lq (cat cs i).q k) :
  SpM Tryz.prog At 63 [(0, some (lbx 2)), (1, some (ibx 0)), (2, some (cbx true k []))] [.t (bI b), .one (.clo 64 [(0, 0), (1, 0)])] [(0, some (lbx 2)), (1, some (ibx (p cs.length : Int))), (2, some (cbx true k cs))] (.tu []) := by
 have h := Ue b hb hl hj h0 hk;generalize p cs.length = u at *;rcases h with lo | lo
 ·exact sm 44 [pl (lo)]
 ·exact sm 44 [pl (lo)]
theorem Vi (b : List Nat) (hb : B8 b) (hl : b.length ≤ 1000000000) {cs : List Ch} {p : Nat → Nat} (hj : Jr b cs p) (h0 : p 0 = 0) (hk : ∀ i, i < cs.length → Lq (cat cs i).q k) :
  Sp Tryz.prog At 24 [.t (bI b)] (.tu [.t (csI true k cs), ci (p cs.length : Int)]) := by
 have he := Ud b hb hl hj h0 hk;generalize p cs.length = u at *;exact sr 11 [⟨.upd [.i 0] 0 [.i 0] [.i 0], rfl⟩, pm ((QZ (I := At) (E := [(0, .t (slI 1 ((b).map (Af)))), (2, .cv (.one (.z))), (3, .i 0), (4, .p 2 0), (5, .p 3 0)]) (B := [(3, some ⟨3, none, [.i 0]⟩)]) (k := 2) (nx := 5) (T := 39) (T2 := 28) (s := 9))), pom [2, 3, 5] (he), ⟨.part ([.sl 8]) 0 1 [.sl 8], rfl⟩, ⟨.part ([.i (u : Int)]) 0 1 [.i (u : Int)], rfl⟩, pm (AV (I := At) (t := 2) (k := 8) (E := [(3, .i (u : Int))]) (B := []) (nx := 13) (T := 28) (sz := 9) (n := ((cs).length)) ((cs).map (Cn true k)) rfl (by simp) Va rfl)]
end
section
variable {I : WInv} {c c' : Bool} {k j : Nat} {q : Rat}
def cst (k : Nat) (c : Bool) (j : Nat) (cs : List Ch) (i : Int) : Go.Proofs.YtdgbealknnmkoaaGreatDoor.St := ⟨[(0, .t (slI 9 ((cs).map (Cn true k)))), (1, .t (slI 9 ((cs).map (Cn c j)))), (5, .i i)], [], 50⟩
theorem Sy (xs : List Nat) (hx : B8 xs) : Sp Tryz.prog I 15 [.t (bI xs), .t (bI xs)] (lb true) :=
 sr 10 [pk (O1 xs), pk (O1 xs), pk (UG 9 xs xs true (decide_eq_true rfl) hx hx)]
end
def jby : List Ch → List Nat
 | [] => []
 | x :: r => Bz 7 (Bl x).1 ++ jby r
theorem KM : ∀ (a b : List Ch), jby (a ++ b) = jby a ++ jby b
 | [], b => rfl
 | x :: a, b => by rw [List.cons_append, jby, jby, KM a b, List.append_assoc]
theorem KL (x : Ch) : jby [x] = Bz 7 (Bl x).1 := by rw [jby, jby, List.append_nil]
theorem Ok : ∀ cs : List Ch, B8 (jby cs)
 | [] => fun x hx => by cases hx
 | x :: r => (PS x).app (Ok r)
theorem Oj : ∀ cs : List Ch, (∀ x ∈ cs, (Bl x).2 = 0) → (jby cs).length ≤ 1000 * cs.length
 | [], _ => by simp [jby]
 | x :: r, h => by
  have h1 := (LT x (h x (by simp))).2
  have h2 := Oj r (fun y hy => h y (by simp [hy]))
  rw [jby, List.length_append, List.length_cons];omega
def Gk (cs : List Ch) (i : Nat) : Nat := (jby (cs.take i)).length
theorem TM (cs : List Ch) : Gk cs 0 = 0 := rfl
theorem LP (cs : List Ch) : Gk cs cs.length = (jby cs).length := by unfold Gk; rw [List.take_length]
theorem JT {cs : List Ch} {i : Nat} (h : i < cs.length) : Gk cs (i + 1) = Gk cs i + (Bz 7 (Bl (cat cs i)).1).length := by
 unfold Gk;rw [Mk h, KM, KL, List.length_append]
theorem Na {cs : List Ch} : ∀ {i j : Nat}, i ≤ j → j ≤ cs.length → Gk cs i ≤ Gk cs j
 | i, 0, h, _ => by rw [show i = 0 by omega]; omega
 | i, j + 1, h, hj => by
  by_cases e : i = j + 1
  ·rw [e]; omega
  ·have := Na (cs := cs) (i := i) (j := j) (by omega) (by omega)
   rw [JT (by omega)]
   omega
theorem VB (cs : List Ch) (i : Nat) : (jby cs).drop (Gk cs i) = jby (cs.drop i) := by
 have : jby cs = jby (cs.take i) ++ jby (cs.drop i) := by rw [← KM, List.take_append_drop]
 rw [this];exact List.drop_left
theorem VC {cs : List Ch} {i : Nat} (h : i < cs.length) : (jby cs).drop (Gk cs i) = Bz 7 (Bl (cat cs i)).1 ++ jby (cs.drop (i + 1)) := by
 rw [VB];have : cs.drop i = cat cs i :: cs.drop (i + 1) := by
  have e := Fs h;rw [List.getElem?_eq_getElem h] at e;injection e with e;rw [← e];exact List.drop_eq_getElem_cons h
 rw [this, jby]
theorem TO {x : Ch} (h : (Bl x).2 = 0) : Bl x = ((Bl x).1, 0) := by rw [← h]
theorem V6 (cs : List Ch) (ok : ∀ x ∈ cs, (Bl x).2 = 0) (k : Nat) (m : Nat) (hm : m ≤ cs.length) (h1 : Gk cs m ≤ k) (h2 : m < cs.length → k < Gk cs (m + 1)) : Jr ((jby cs).take k) (cs.take m) (Gk cs) := by
 have ok' : ∀ i, i < cs.length → (Bl (cat cs i)).2 = 0 := fun i hi => ok _ (List.mem_of_getElem? (Fs hi))
 have hlen : (cs.take m).length = m := by rw [List.length_take]; omega
 constructor
 ·intro i hi
  rw [hlen] at hi;have e1 : cat (cs.take m) i = cat cs i := by
   have a := Fs (L := cs.take m) (i := i) (by omega)
   rw [List.getElem?_take, if_pos hi, Fs (by omega)] at a
   injection a with a;exact a.symm
  rw [e1];have hk := Na (cs := cs) (i := i + 1) (j := m) (by omega) hm
  have hs := JT (cs := cs) (i := i) (by omega)
  have ho := ok' i (by omega)
  have hl := Gl (cat cs i);refine ⟨(Bl (cat cs i)).1, (Bz 7 (Bl (cat cs i)).1).length, ?_, TO ho, hs⟩;rw [List.drop_take, VC (by omega), List.take_append, List.take_of_length_le (by omega)]
  exact N5 7 _ _ (by omega)
 ·rintro y e ⟨body, used, h3, _⟩
  rw [hlen, List.drop_take] at h3;by_cases hlt : m < cs.length
  ·have hs := JT (cs := cs) (i := m) hlt
   have hl := Gl (cat cs m);have := h2 hlt;rw [VC hlt, List.take_append_of_le_length (by omega), O9 7 _ _ (by omega) (by omega)] at h3
   cases h3
  ·have e0 : (jby cs).drop (Gk cs m) = [] := by
    rw [show m = cs.length by omega, LP]
    exact List.drop_eq_nil_of_le (Nat.le_refl _)
   rw [e0, List.take_nil] at h3;simp [By] at h3
theorem ZQ (cs : List Ch) (ok : ∀ x ∈ cs, (Bl x).2 = 0) : Jr (jby cs) cs (Gk cs) := by
 have := V6 cs ok (jby cs).length cs.length (Nat.le_refl _) (by rw [LP]; exact Nat.le_refl _) (fun h => absurd h (Nat.lt_irrefl _))
 rwa [List.take_length, List.take_length] at this
def kx5 : Ch := ⟨3, 0, 0, 0, 0, 5⟩
theorem XR : Bl kx5 = ([3, 0, 10], 0) := by
 have h : Bg kx5 = true := by decide +kernel
 unfold Bl;rw [h, if_neg (by decide), if_neg (fun h => absurd h.1 (by decide))]
 show (Aa 3 ++ Aa 0 ++ Nb kx5, (0 : Int)) = _;have e : Nb kx5 = Aa 10 := rfl;rw [e, CI (by omega), CI (by omega), CI (by omega)]
 rfl
theorem AaL (k : Nat) (h : 0 < k) : Lq kx5.q k := ⟨Gj k, EG h, h⟩
theorem So : Sp Tryz.prog At 12 [] (lb true) := by
 have e0 := XR;have hok : ∀ x ∈ [kx5], (Bl x).2 = 0 := fun x hx => by rw [List.mem_singleton.1 hx, e0]
 have hlen : (jby [kx5]).length = 9 := by
  rw [KL, FF, e0];simp only [List.length_cons, List.length_nil];rw [CI (by omega)]
  rfl
 have ha := (Q1 (c := false) (k := 12) [] (by simp) kx5 (by omega)).inv QD
 have hj : FD [] kx5 = (jby [kx5], 0) := by
  unfold FD;rw [e0, if_pos rfl, KL, e0]
  rfl
 rw [hj] at ha;have ha := ha.wk (args' := [.one (.z), chL 3 0 0 0 5]) ⟨XLe.one NZ, Aao 12 (by omega) 3 0 0 0 5, trivial⟩
 have p1 : Gk [kx5] 1 = 9 := by rw [← hlen]; exact LP [kx5]
 have hk : ∀ i, i < [kx5].length → Lq (cat [kx5] i).q 12 := fun i hi => by
  have : i = 0 := by simp at hi; exact hi
  subst this;exact AaL 12 (by omega)
 have r1 := Vi (k := 12) (jby [kx5]) (Ok _) (by omega) (ZQ [kx5] hok) rfl hk
 have hc0' := V6 [kx5] hok 8 0 (by simp) (by rw [TM]; omega) (fun _ => by rw [p1]; omega)
 have r2 := Vi (k := 12) ((jby [kx5]).take 8) ((Ok _).take 8) (by rw [List.length_take]; omega) hc0' rfl (fun i hi => by simp at hi)
 have r1 : Sp Tryz.prog At 24 _ (.tu [.t (csI true 12 [kx5]), ci (Gk [kx5] 1 : Int)]) := r1;rw [p1] at r1;have r2 : Sp Tryz.prog At 24 _ (.tu [.t (csI true 12 []), ci 0]) := r2;have hcl : [kx5].length = 1 := rfl;have h5 : (cat [kx5] 0).cost = 5 := rfl;have hc0 : 0 < [kx5].length := by decide
 have hdl : ([] : List Ch).length = 0 := rfl;generalize [kx5] = cs at *;generalize ([] : List Ch) = ds at *;generalize jby cs = b at *;exact sr 58 [po (ha), pa, pk (AY 31 5 3 1 ((b).map (Af)) ((b).length : Int)), pk (An 3 ((b).length : Int) 5), po (r1), pk (AY 31 5 3 1 ((b).map (Af)) ((b).length : Int)), pk (WS 3 ((b).length : Int) 1 ⟨by omega, by omega⟩), pk (Y9 b 8 (((b).length : Int) - 1) (by omega) (by omega)), po (r2), pk (AY 39 28 3 9 ((cs).map (Cn true 12)) ((cs).length : Int)), pk (Am 3 ((cs).length : Int) 1), pk (Ai 39 28 9 ((cs).map (Cn true 12)) 0 0 ((Cn true 12) (cat cs 0)) (Y8 hc0)), pk (AX 3 ((cat cs 0).cost) 5 true (decide_eq_true h5)), pk (AY 31 5 3 1 ((b).map (Af)) ((b).length : Int)), pk (AX 3 (9 : Int) ((b).length : Int) true (decide_eq_true (by omega))), pk (AY 39 28 3 9 ((ds).map (Cn true 12)) ((ds).length : Int)), pk (Am 3 ((ds).length : Int) 0), pa]
def trA (q : Rat) (cs : List Ch) : List Nd × Bool × Int := cs.foldl (fun T x => apS T.1 T.2.1 T.2.2 x) (GS q, false, 0)
theorem OH (q : Rat) (cs : List Ch) (x : Ch) : trA q (cs ++ [x]) = apS (trA q cs).1 (trA q cs).2.1 (trA q cs).2.2 x := by unfold trA; rw [List.foldl_append]; rfl
def okA (q : Rat) (cs : List Ch) : Prop := ∀ i, i < cs.length → apC (trA q (cs.take i)).1 (trA q (cs.take i)).2.1 (trA q (cs.take i)).2.2 (cat cs i) = 0
theorem WK {L M : List Ch} {i : Nat} (h : i < L.length) : cat (L ++ M) i = cat L i := by
 unfold cat;rw [List.getD_eq_getElem?_getD, List.getElem?_append_left h, ← List.getD_eq_getElem?_getD]
theorem WL (L : List Ch) (x : Ch) : cat (L ++ [x]) L.length = x := by
 unfold cat;rw [List.getD_eq_getElem?_getD, List.getElem?_append_right (Nat.le_refl _), Nat.sub_self]; rfl
theorem Vq {q : Rat} {cs : List Ch} {x : Ch} (h : okA q cs) (hx : apC (trA q cs).1 (trA q cs).2.1 (trA q cs).2.2 x = 0) : okA q (cs ++ [x]) := by
 intro i hi;rw [List.length_append, List.length_singleton] at hi;by_cases e : i = cs.length
 ·rw [e, WL, List.take_left]
  exact hx
 ·rw [List.take_append_of_le_length (by omega), WK (by omega)]
  exact h i (by omega)
theorem XJ {q : Rat} (hq : okc q = true) {cs : List Ch} (h : okA q cs) : ∀ i, i ≤ cs.length → tvc (trA q (cs.take i)).1 (trA q (cs.take i)).2.1 (trA q (cs.take i)).2.2 = 0
 | 0, _ => N9.2 ⟨0, Vb hq⟩
 | i + 1, hi => by
  rw [Mk (by omega), OH]
  exact (Aax (h i (by omega))).2.2.2
theorem Y4 (n : Int) : Lq (Kc n).q 12 := by
 have h0 : Lq 0 12 := ⟨Gj 12, EG (by omega), by omega⟩
 unfold Kc;split
 ·exact PT _
 ·split
  ·exact h0
  ·split
   ·exact h0
   ·exact h0
def jnP (l : List Int) : Nat → List Ch
 | 0 => []
 | k + 1 => if apC (trA (B0 (atS l 0)) (jnP l k)).1 (trA (B0 (atS l 0)) (jnP l k)).2.1 (trA (B0 (atS l 0)) (jnP l k)).2.2 (Kc (atS l (k + 1))) = 0 ∧ (Bl (Kc (atS l (k + 1)))).2 = 0 then jnP l k ++ [Kc (atS l (k + 1))] else jnP l k
structure Jok (q : Rat) (n : Nat) (cs : List Ch) : Prop where
 len : cs.length ≤ n
 enc : ∀ x ∈ cs, (Bl x).2 = 0
 lq : ∀ x ∈ cs, Lq x.q 12
 ap : okA q cs
theorem Rl (l : List Int) : ∀ k, Jok (B0 (atS l 0)) k (jnP l k)
 | 0 => ⟨Nat.le_refl _, (fun x hx => by cases hx), (fun x hx => by cases hx), (fun i hi => by cases hi)⟩
 | k + 1 => by
  have ih := Rl l k;rw [jnP];by_cases h : apC (trA (B0 (atS l 0)) (jnP l k)).1 (trA (B0 (atS l 0)) (jnP l k)).2.1 (trA (B0 (atS l 0)) (jnP l k)).2.2 (Kc (atS l (k + 1))) = 0 ∧ (Bl (Kc (atS l (k + 1)))).2 = 0
  ·rw [if_pos h]
   refine ⟨by rw [List.length_append, List.length_singleton]; have := ih.len; omega, fun x hx => ?_, fun x hx => ?_, Vq ih.ap h.1⟩
   ·rcases List.mem_append.1 hx with hx | hx
    ·exact ih.enc x hx
    ·rw [List.mem_singleton.1 hx]; exact h.2
   ·rcases List.mem_append.1 hx with hx | hx
    ·exact ih.lq x hx
    ·rw [List.mem_singleton.1 hx]; exact Y4 _
  ·rw [if_neg h]
   exact ⟨by have := ih.len; omega, ih.enc, ih.lq, ih.ap⟩
def jnN (l : List Int) : Nat := if 10 ≤ l.length - 1 then 10 else l.length - 1
def jnS (l : List Int) : List Ch := jnP l (jnN l)
theorem ZR (l : List Int) : Jok (B0 (atS l 0)) 10 (jnS l) := by
 have h := Rl l (jnN l);have : jnN l ≤ 10 := by unfold jnN; split <;> omega
 exact ⟨by have := h.len; unfold jnS; omega, h.enc, h.lq, h.ap⟩
theorem VA (cs : List Ch) (x : Ch) (h : (Bl x).2 = 0) : FD (jby cs) x = (jby (cs ++ [x]), 0) := by
 unfold FD;rw [if_pos h, KM, KL]
section
variable {I : WInv}
def jst (l : List Int) (b : List Nat) (cs : List Ch) (L : List Nd) (f : Bool) (z : Int) (i : Int) : Go.Proofs.YtdgbealknnmkoaaGreatDoor.St := ⟨[(0, .t (slI 1 ((l).map (Ag)))), (4, .p 2 0), (5, .p 7 0), (6, .s 40), (7, .t (slI 1 ((b).map (Af)))), (8, .i i)], [(2, some ⟨46, none, [.z, .o false, .i 0]⟩), (7, some ⟨46, none, [.b (.it (slI 9 ((L).map (Aj true)))), .o f, .i z]⟩), (40, some ⟨28, some (9, (cs).length), Ad ((cs).map (Cn false 12))⟩)], 50⟩
def Abc (b : List Nat) (cs : List Ch) (L : List Nd) (f : Bool) (z : Int) : Go.Proofs.YtdgbealknnmkoaaGreatDoor.St := ⟨[(4, .p 2 0), (5, .p 7 0), (6, .s 40), (7, .t (slI 1 ((b).map (Af))))], [(2, some ⟨46, none, [.z, .o false, .i 0]⟩), (7, some ⟨46, none, [.b (.it (slI 9 ((L).map (Aj true)))), .o f, .i z]⟩), (40, some ⟨28, some (9, (cs).length), Ad ((cs).map (Cn false 12))⟩)], 50⟩
theorem Rk (l : List Int) (hl : l.length ≤ 35184372087808) (b : List Nat) (hb : b.length ≤ 1000000) (cs : List Ch) (hc : cs.length ≤ 100000) (L : List Nd) (f : Bool) (z : Int) (k : Nat) (h1 : k < 10) (h2 : k + 1 < l.length) (hn : L.length ≤ 2000) (x : Ch) (hx : x = Kc (atS l (k + 1))) :
  (apC L f z x = 0 → (FD b x).2 = 0 → Rnd Tryz.prog I 58 (Bn Tryz.prog 20 0) (jst l b cs L f z ((k + 1 : Nat) : Int)) .normal (jst l (FD b x).1 (cs ++ [x]) (apS L f z x).1 (apS L f z x).2.1 (apS L f z x).2.2 ((k + 1 + 1 : Nat) : Int))) ∧
  (¬ (apC L f z x = 0 ∧ (FD b x).2 = 0) → Rnd Tryz.prog I 58 (Bn Tryz.prog 20 0) (jst l b cs L f z ((k + 1 : Nat) : Int)) .normal (jst l b cs L f z ((k + 1 + 1 : Nat) : Int))) := by
 have hch := WI (I := I) l (k + 1) (by omega) hl
 rw [← hx] at hch;have hap := Tt (I := I) (c := true) (c' := false) L f z (by omega) x
 have hje := MQ (I := I) (c := false) (k := 12) b (by omega) x (by omega)
 generalize apS L f z x = S at *;generalize apC L f z x = r at *;generalize FD b x = J at *;obtain ⟨b2, r2⟩ := J;simp only at hje ⊢;refine ⟨fun e1 e2 => ?_, fun hno => ?_⟩
 ·subst e1 e2
  exact Rnd.nam [(40, 91)] (show Rnd _ _ _ _ _ _ ⟨[(0, .t (slI 1 ((l).map (Ag)))), (4, .p 2 0), (5, .p 7 0), (6, .s 91), (7, .t (slI 1 ((b2).map (Af)))), (8, .i ((k + 1 + 1 : Nat) : Int))], [(2, some ⟨46, none, [.z, .o false, .i 0]⟩), (7, some ⟨46, none, [.b (.it (slI 9 ((S.1).map (Aj true)))), .o S.2.1, .i S.2.2]⟩), (91, some ⟨28, some (9, (cs).length + 1), (Ad ((cs).map (Cn false 12))) ++ ([.i x.kind, .i x.node, .b (.it (fF false 12 x.q)), .i x.fst, .i x.nxt, .i x.cost])⟩)], 98⟩ from rr [pk (Hs 3 ((k + 1 : Nat) : Int) 10), pk (AY 40 3 3 1 ((l).map (Ag)) ((l).length : Int)), pk (AA 3 ((k + 1 : Nat) : Int) ((l).length : Int)), po (hch), po (hap), po (hje), pa, pa, ⟨.ap ((cs).length) 1 104, ⟨by omega, by simp [maxLen]; omega⟩⟩, pk (Bd 3 ((k + 1 : Nat) : Int) 1 ⟨by omega, by omega⟩)]) (t := ⟨[(0, .t (slI 1 ((l).map (Ag)))), (4, .p 2 0), (5, .p 7 0), (6, .s 40), (7, .t (slI 1 ((b2).map (Af)))), (8, .i ((k + 1 + 1 : Nat) : Int))], [(2, some ⟨46, none, [.z, .o false, .i 0]⟩), (7, some ⟨46, none, [.b (.it (slI 9 ((S.1).map (Aj true)))), .o S.2.1, .i S.2.2]⟩), (40, some ⟨28, some (9, (cs ++ [x]).length), Ad (((cs ++ [x])).map (Cn false 12))⟩)], 50⟩) ⟨rfl, TVle.refl, rfl, TVle.refl, rfl, TVle.refl, rfl, TVle.refl, rfl, TVle.refl, rfl, TVle.refl, trivial⟩ ⟨rfl, rfl, rfl, ILe.refl, rfl, rfl, rfl, ILe.refl, rfl, rfl, (congrArg (fun m => some (9, m)) (show (cs).length + 1 = (cs ++ [x]).length by simp)), ILe.eq (show (Ad ((cs).map (Cn false 12))) ++ ([.i x.kind, .i x.node, .b (.it (fF false 12 x.q)), .i x.fst, .i x.nxt, .i x.cost]) = Ad (((cs ++ [x])).map (Cn false 12)) from by simp [Ad]), trivial⟩
 ·by_cases h0 : r = 0
  ·subst h0
   have hr2 : ¬ r2 = 0 := fun h => hno ⟨rfl, h⟩
   exact Rnd.nam [] (show Rnd _ _ _ _ _ _ ⟨[(0, .t (slI 1 ((l).map (Ag)))), (4, .p 2 0), (5, .p 7 0), (6, .s 40), (7, .t (slI 1 ((b).map (Af)))), (8, .i ((k + 1 + 1 : Nat) : Int))], [(2, some ⟨46, none, [.z, .o false, .i 0]⟩), (7, some ⟨46, none, [.b (.it (slI 9 ((L).map (Aj true)))), .o f, .i z]⟩), (40, some ⟨28, some (9, (cs).length), Ad ((cs).map (Cn false 12))⟩)], 89⟩ from rr [pk (Hs 3 ((k + 1 : Nat) : Int) 10), pk (AY 40 3 3 1 ((l).map (Ag)) ((l).length : Int)), pk (AA 3 ((k + 1 : Nat) : Int) ((l).length : Int)), po (hch), po (hap), po (hje), pa, pk (Ae 32 r2 0), pk (Bd 3 ((k + 1 : Nat) : Int) 1 ⟨by omega, by omega⟩)]) (t := ⟨[(0, .t (slI 1 ((l).map (Ag)))), (4, .p 2 0), (5, .p 7 0), (6, .s 40), (7, .t (slI 1 ((b).map (Af)))), (8, .i ((k + 1 + 1 : Nat) : Int))], [(2, some ⟨46, none, [.z, .o false, .i 0]⟩), (7, some ⟨46, none, [.b (.it (slI 9 ((L).map (Aj true)))), .o f, .i z]⟩), (40, some ⟨28, some (9, (cs).length), Ad ((cs).map (Cn false 12))⟩)], 50⟩) ⟨rfl, TVle.refl, rfl, TVle.refl, rfl, TVle.refl, rfl, TVle.refl, rfl, TVle.refl, rfl, TVle.refl, trivial⟩ ⟨rfl, rfl, rfl, ILe.refl, rfl, rfl, rfl, ILe.refl, rfl, rfl, rfl, ILe.refl, trivial⟩
  ·exact Rnd.nam [] (show Rnd _ _ _ _ _ _ ⟨[(0, .t (slI 1 ((l).map (Ag)))), (4, .p 2 0), (5, .p 7 0), (6, .s 40), (7, .t (slI 1 ((b).map (Af)))), (8, .i ((k + 1 + 1 : Nat) : Int))], [(2, some ⟨46, none, [.z, .o false, .i 0]⟩), (7, some ⟨46, none, [.b (.it (slI 9 ((L).map (Aj true)))), .o f, .i z]⟩), (40, some ⟨28, some (9, (cs).length), Ad ((cs).map (Cn false 12))⟩)], 89⟩ from rr [pk (Hs 3 ((k + 1 : Nat) : Int) 10), pk (AY 40 3 3 1 ((l).map (Ag)) ((l).length : Int)), pk (AA 3 ((k + 1 : Nat) : Int) ((l).length : Int)), po (hch), po (hap), po (hje), pk (Ae 32 r 0), pk (Bd 3 ((k + 1 : Nat) : Int) 1 ⟨by omega, by omega⟩)]) (t := ⟨[(0, .t (slI 1 ((l).map (Ag)))), (4, .p 2 0), (5, .p 7 0), (6, .s 40), (7, .t (slI 1 ((b).map (Af)))), (8, .i ((k + 1 + 1 : Nat) : Int))], [(2, some ⟨46, none, [.z, .o false, .i 0]⟩), (7, some ⟨46, none, [.b (.it (slI 9 ((L).map (Aj true)))), .o f, .i z]⟩), (40, some ⟨28, some (9, (cs).length), Ad ((cs).map (Cn false 12))⟩)], 50⟩) ⟨rfl, TVle.refl, rfl, TVle.refl, rfl, TVle.refl, rfl, TVle.refl, rfl, TVle.refl, rfl, TVle.refl, trivial⟩ ⟨rfl, rfl, rfl, ILe.refl, rfl, rfl, rfl, ILe.refl, rfl, rfl, rfl, ILe.refl, trivial⟩
theorem TN (l : List Int) (hl : l.length ≤ 35184372087808) : LoopTr Tryz.prog I 58 (Bn Tryz.prog 20 0) (jst l [] [] (GS (B0 (atS l 0))) false 0 ((0 + 1 : Nat) : Int)) (.exit 0) (Abc (jby (jnS l)) (jnS l) (trA (B0 (atS l 0)) (jnS l)).1 (trA (B0 (atS l 0)) (jnS l)).2.1 (trA (B0 (atS l 0)) (jnS l)).2.2) := by
 refine CR (by simp) (fun k => jst l (jby (jnP l k)) (jnP l k) (trA (B0 (atS l 0)) (jnP l k)).1 (trA (B0 (atS l 0)) (jnP l k)).2.1 (trA (B0 (atS l 0)) (jnP l k)).2.2 ((k + 1 : Nat) : Int)) (jnN l) (fun k hk => ?_) ?_
 ·have hk2 : k < 10 ∧ k + 1 < l.length := by unfold jnN at hk; split at hk <;> omega
  have hok := Rl l k;have hbl := Oj (jnP l k) hok.enc;have hlen := hok.len;have ht := XJ (VL _) hok.ap (jnP l k).length (Nat.le_refl _);rw [List.take_length] at ht;have hb := (Lh ht).2.1;obtain ⟨r1, r2⟩ := Rk (I := I) l hl (jby (jnP l k)) (by omega) (jnP l k) (by omega) (trA (B0 (atS l 0)) (jnP l k)).1 (trA (B0 (atS l 0)) (jnP l k)).2.1 (trA (B0 (atS l 0)) (jnP l k)).2.2 k hk2.1 hk2.2 hb _ rfl
  rw [jnP];by_cases h : apC (trA (B0 (atS l 0)) (jnP l k)).1 (trA (B0 (atS l 0)) (jnP l k)).2.1 (trA (B0 (atS l 0)) (jnP l k)).2.2 (Kc (atS l (k + 1))) = 0 ∧ (Bl (Kc (atS l (k + 1)))).2 = 0
  ·rw [if_pos h, OH]
   have e := VA (jnP l k) _ h.2;have := r1 h.1 (by rw [e])
   rw [e] at this;exact this
  ·rw [if_neg h]
   refine r2 fun hh => h ⟨hh.1, ?_⟩
   exact (XU hh.2).1
 ·show Rnd Tryz.prog I _ _ (jst l (jby (jnS l)) (jnS l) (trA (B0 (atS l 0)) (jnS l)).1 (trA (B0 (atS l 0)) (jnS l)).2.1 (trA (B0 (atS l 0)) (jnS l)).2.2 ((jnN l + 1 : Nat) : Int)) _ _
  have hk : jnN l = 10 ∨ (jnN l < 10 ∧ (l.length = jnN l + 1 ∨ l.length = 0)) := by unfold jnN; split <;> omega
  generalize trA (B0 (atS l 0)) (jnS l) = S at *;obtain ⟨L, f, z⟩ := S
  dsimp only
  generalize jby (jnS l) = b at *;generalize jnS l = cs at *;generalize jnN l = k at *;rcases hk with hk | ⟨hk, hk2⟩
  ·exact Rnd.nam [] (show Rnd _ _ _ _ _ _ ⟨[(4, .p 2 0), (5, .p 7 0), (6, .s 40), (7, .t (slI 1 ((b).map (Af))))], [(2, some ⟨46, none, [.z, .o false, .i 0]⟩), (7, some ⟨46, none, [.b (.it (slI 9 ((L).map (Aj true)))), .o f, .i z]⟩), (40, some ⟨28, some (9, (cs).length), Ad ((cs).map (Cn false 12))⟩)], 58⟩ from rr [pk (Ke 3 ((k + 1 : Nat) : Int) 10)]) (t := ⟨[(4, .p 2 0), (5, .p 7 0), (6, .s 40), (7, .t (slI 1 ((b).map (Af))))], [(2, some ⟨46, none, [.z, .o false, .i 0]⟩), (7, some ⟨46, none, [.b (.it (slI 9 ((L).map (Aj true)))), .o f, .i z]⟩), (40, some ⟨28, some (9, (cs).length), Ad ((cs).map (Cn false 12))⟩)], 50⟩) ⟨rfl, TVle.refl, rfl, TVle.refl, rfl, TVle.refl, rfl, TVle.refl, trivial⟩ ⟨rfl, rfl, rfl, ILe.refl, rfl, rfl, rfl, ILe.refl, rfl, rfl, rfl, ILe.refl, trivial⟩
  ·exact Rnd.nam [] (show Rnd _ _ _ _ _ _ ⟨[(4, .p 2 0), (5, .p 7 0), (6, .s 40), (7, .t (slI 1 ((b).map (Af))))], [(2, some ⟨46, none, [.z, .o false, .i 0]⟩), (7, some ⟨46, none, [.b (.it (slI 9 ((L).map (Aj true)))), .o f, .i z]⟩), (40, some ⟨28, some (9, (cs).length), Ad ((cs).map (Cn false 12))⟩)], 58⟩ from rr [pk (Hs 3 ((k + 1 : Nat) : Int) 10), pk (AY 40 3 3 1 ((l).map (Ag)) ((l).length : Int)), pk (An 3 ((k + 1 : Nat) : Int) ((l).length : Int))]) (t := ⟨[(4, .p 2 0), (5, .p 7 0), (6, .s 40), (7, .t (slI 1 ((b).map (Af))))], [(2, some ⟨46, none, [.z, .o false, .i 0]⟩), (7, some ⟨46, none, [.b (.it (slI 9 ((L).map (Aj true)))), .o f, .i z]⟩), (40, some ⟨28, some (9, (cs).length), Ad ((cs).map (Cn false 12))⟩)], 50⟩) ⟨rfl, TVle.refl, rfl, TVle.refl, rfl, TVle.refl, rfl, TVle.refl, trivial⟩ ⟨rfl, rfl, rfl, ILe.refl, rfl, rfl, rfl, ILe.refl, rfl, rfl, rfl, ILe.refl, trivial⟩
theorem V7 (l : List Int) (q : Rat) : Leads I 58 ⟨[(6, .cv (.one (.z))), (7, .cv (.one (.z))), (0, .t (slI 1 ((l).map (Ag)))), (4, .p 2 0), (5, .p 7 0), (8, .i 1)], [(2, some ⟨46, none, [.z, .o false, .i 0]⟩), (7, some ⟨46, none, [.b (.it (slI 9 (((GS q)).map (Aj true)))), .o false, .i 0]⟩)], 49⟩ (jst l [] [] (GS q) false 0 ((0 + 1 : Nat) : Int)) :=
 (show Leads I 58 ⟨[(6, .cv (.one (.z))), (7, .cv (.one (.z))), (0, .t (slI 1 ((l).map (Ag)))), (4, .p 2 0), (5, .p 7 0), (8, .i 1)], [(2, some ⟨46, none, [.z, .o false, .i 0]⟩), (7, some ⟨46, none, [.b (.it (slI 9 (((GS q)).map (Aj true)))), .o false, .i 0]⟩)], 49⟩ ⟨[(6, .cv (.one (.z))), (7, .t (slI 1 ((([] : List Nat)).map (Af)))), (0, .t (slI 1 ((l).map (Ag)))), (4, .p 2 0), (5, .p 7 0), (8, .i 1)], [(2, some ⟨46, none, [.z, .o false, .i 0]⟩), (7, some ⟨46, none, [.b (.it (slI 9 (((GS q)).map (Aj true)))), .o false, .i 0]⟩)], 49⟩ from La ⟨rfl, TVle.refl, rfl, (XLe.one NZ).tv, rfl, TVle.refl, rfl, TVle.refl, rfl, TVle.refl, rfl, TVle.refl, trivial⟩ ⟨rfl, rfl, rfl, ILe.refl, rfl, rfl, rfl, ILe.refl, trivial⟩).trans ((F7 (t := 6) (k := 40) 28 9 rfl (by repeat' first | exact trivial | exact fun h => absurd h Bool.false_ne_true | exact fun _ => Au _ | exact fun _ => rfl | exact fun _ => BI (Au _) rfl | refine ⟨?_, ?_⟩) rfl rfl).trans (Hf ⟨rfl, rfl, rfl, rfl, rfl, rfl, trivial⟩ ⟨rfl, rfl, rfl, trivial⟩))
theorem XS (l : List Int) (hl : l.length ≤ 35184372087808) : Sp Tryz.prog I 20 [.t (slI 1 (l.map Ag))] (.tu [.t (csI false 12 (jnS l)), .t (bI (jby (jnS l))), trT true (trA (B0 (atS l 0)) (jnS l)).1 (trA (B0 (atS l 0)) (jnS l)).2.1 (trA (B0 (atS l 0)) (jnS l)).2.2]) := by
 have ha := WV (I := I) l 0 (by omega) hl
 have hf := Su (I := I) (atS l 0);have hnw := Xw (I := I) (c := true) (B0 (atS l 0));have lo := LoopTr.pre (V7 (I := I) l (B0 (atS l 0))) (TN (I := I) l hl);generalize trA (B0 (atS l 0)) (jnS l) = S at *;obtain ⟨L, f, z⟩ := S
 dsimp only at lo ⊢
 generalize jby (jnS l) = b at *;generalize jnS l = cs at *;generalize B0 (atS l 0) = q at *;generalize atS l 0 = n at *;exact sr 58 [po (ha), po (hf), po (hnw), pl (lo), ⟨.part ([.b (.it (slI 9 ((L).map (Aj true)))), .o f, .i z]) 0 3 [.b (.it (slI 9 ((L).map (Aj true)))), .o f, .i z], rfl⟩, ⟨.upd [.z, .o false, .i 0] 0 [.b (.it (slI 9 ((L).map (Aj true)))), .o f, .i z] [.b (.it (slI 9 ((L).map (Aj true)))), .o f, .i z], rfl⟩, pm (AV (I := I) (t := 2) (k := 40) (E := [(3, .t (slI 1 ((b).map (Af)))), (4, .p 2 0)]) (B := [(2, some ⟨46, none, [.b (.it (slI 9 ((L).map (Aj true)))), .o f, .i z]⟩)]) (nx := 56) (T := 28) (sz := 9) (n := ((cs).length)) ((cs).map (Cn false 12)) rfl (by simp) Va rfl)]
end
end Go.Proofs.YtdgbealknnmkoaaGreatDoor
