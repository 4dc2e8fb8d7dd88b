/- Texts of one proof, put together by a program: each lemma is proved for all values of its variables, under the premises that it states. -/
import Derived.Test.YtdgbealknnmkoaaGreatDoorPc2c7d52f
import Derived.Test.YtdgbealknnmkoaaGreatDoorP88da94e4
import Derived.Test.YtdgbealknnmkoaaGreatDoorP8a062e74
import Derived.Test.YtdgbealknnmkoaaGreatDoorP93e4f1f5
set_option linter.unusedVariables false
set_option linter.unusedSimpArgs false
namespace Go.Proofs.YtdgbealknnmkoaaGreatDoor
open Go Go.RowKit
def BK (z : Int) : List Nat := C8 (decide (z < 0)) z.natAbs
theorem QS {N : Nat → Prop} {w w' : World} {z code : Int} {e : Ending} (h : CU w z code e w') : ∃ v, e = .returned v ∧ (TV.tu [.ag (ic z), ci code]).sem (Nx N w w') w' G0 v ∧ Below w.heap.size w w' := by
 obtain ⟨s, A, n, c, e1, h1, h2⟩ := h;exact ⟨_, e1, ⟨_, rfl, _, _, rfl, ⟨[.bool s, .slice A n c], rfl, C9 ⟨s, A, n, c, rfl, h1⟩⟩, _, _, rfl, rfl, rfl⟩, h2⟩
theorem J1 (w : World) (n : Nat) : Below w.heap.size w (w.drewN n) := ⟨rfl, rfl, rfl, Nat.le_refl _, fun _ _ => rfl⟩
section
variable {I : WInv} {x : List It} {z code : Int}
theorem VI (hx : Num x z) : Sp Tryz.prog CQ 91 [.ag x] (tS (BK z)) := WI hx
theorem SB (hx : Num x z) : Sp Tryz.prog I 96 [.ag x] (tS (BK z)) := by
 intro N w vs hI _ hv;obtain ⟨l, rfl, h1⟩ := Ow hv;obtain ⟨s, A, n, c, rfl, h2, h3⟩ := hx N w l h1;have e : Au (BK z) = Au (C8 s z.natAbs) := (Qi h2.sign_eq).symm;unfold tS;rw [e];exact (Ld w h2 (by omega)).mono fun e w' he => Fv he
theorem BU {xs : List Nat} (hx : B8 xs) (hp : PA xs z code) (hl : xs.length ≤ 9223372036854775807) : Sp Tryz.prog I 101 [cS xs] (.tu [.ag (ic z), ci code]) := by
 intro N w vs _ _ hv;rw [Hm hv];exact (Rb (Au xs) w (by rw [hx.bo]; exact hp) (by rw [AZ]; exact hl)).mono fun e w' he => QS he
theorem Xt (n : Nat) (hn : n ≤ 1000) : Sp Tryz.prog I 144 [cS [48], ci (n : Int)] (tS (List.replicate n 48)) := by
 intro N w vs _ _ hv;obtain ⟨v, r, rfl, h1, v2, r2, rfl, h3, h4⟩ := hv;have h1 : [v] = [.string (Au [48])] := h1;have h3 : [v2] = [.int .i64 (n : Int)] := h3;injection h1 with h1;injection h3 with h3;obtain rfl : r2 = [] := h4;subst h1 h3;refine (Tryz.strings_Repeat (Au [48]) n w (by omega) (by rw [AZ]; simp; omega)).mono ?_
 rintro e w' ⟨rfl, hb⟩;have e1 : ∀ n, Lib.repeatL (Au [48]).data.toList n = (List.replicate n 48).map UInt8.ofNat := by
  intro n;rw [B6];induction n with
  | zero => rfl
  | succ n ih => rw [Lib.repeatL, ih, List.replicate_succ, List.map_cons]; rfl
 rw [e1];exact ⟨_, rfl, (rfl : [_] = [_]), hb⟩
theorem Ny (xs : List Nat) (hx : B8 xs) : Lib.hasPrefix (xs.map UInt8.ofNat) [UInt8.ofNat 45] = Bd xs := by
 unfold Lib.hasPrefix Bd;cases xs with
 | nil => rfl
 | cons a l =>
  have ha := hx a (by simp)
  simp only [List.map_cons, List.isPrefixOf, List.getD_cons_zero, Bool.and_true];by_cases h : a = 45
  ·subst h; rfl
  ·have h1 : (UInt8.ofNat 45 == UInt8.ofNat a) = false := by
    rw [beq_eq_false_iff_ne];exact fun h' => h ((ON (by omega) ha).1 h').symm
   rw [h1];have h2 : (a == 45) = false := by rw [beq_eq_false_iff_ne]; exact h
   rw [h2]
theorem Tj {xs : List Nat} (hx : B8 xs) : Sp Tryz.prog I 141 [cS xs, cS [45]] (lb (Bd xs)) := by
 intro N w vs _ _ hv;obtain ⟨v, r, rfl, h1, v2, r2, rfl, h3, h4⟩ := hv;have h1 : [v] = [.string (Au xs)] := h1;have h3 : [v2] = [.string (Au [45])] := h3;injection h1 with h1;injection h3 with h3;obtain rfl : r2 = [] := h4;subst h1 h3;refine (Tryz.strings_HasPrefix (Au xs) (Au [45]) w).mono ?_;rintro e w' ⟨rfl, rfl⟩;rw [B6, B6, show [45].map UInt8.ofNat = [UInt8.ofNat 45] from rfl, Ny xs hx];exact ⟨_, rfl, (rfl : [_] = [_]), Below.refl _ _⟩
theorem Dv {xs : List Nat} (hx : B8 xs) : Sp Tryz.prog I 142 [cS xs, cS [45]] (tS (AK xs)) := by
 intro N w vs _ _ hv;obtain ⟨v, r, rfl, h1, v2, r2, rfl, h3, h4⟩ := hv;have h1 : [v] = [.string (Au xs)] := h1;have h3 : [v2] = [.string (Au [45])] := h3;injection h1 with h1;injection h3 with h3;obtain rfl : r2 = [] := h4;subst h1 h3;refine (Tryz.strings_TrimPrefix (Au xs) (Au [45]) w).mono ?_;rintro e w' ⟨rfl, rfl⟩;refine ⟨_, rfl, ?_, Below.refl _ _⟩;have e1 : Lib.trimPrefix (Au xs).data.toList (Au [45]).data.toList = (AK xs).map UInt8.ofNat := by
  rw [B6, B6, show [45].map UInt8.ofNat = [UInt8.ofNat 45] from rfl];unfold Lib.trimPrefix AK;rw [Ny xs hx];split
  ·rw [List.map_drop]; rfl
  ·rfl
 rw [e1];exact (rfl : [_] = [_])
theorem JI {xs : List Nat} (hx : B8 xs) : Sp Tryz.prog I 143 [cS xs, cS [48]] (tS (xs.dropWhile (· == 48))) := by
 intro N w vs _ _ hv;obtain ⟨v, r, rfl, h1, v2, r2, rfl, h3, h4⟩ := hv;have h1 : [v] = [.string (Au xs)] := h1;have h3 : [v2] = [.string (Au [48])] := h3;injection h1 with h1;injection h3 with h3;obtain rfl : r2 = [] := h4;subst h1 h3;refine (Tryz.strings_TrimLeft_one (Au xs) (UInt8.ofNat 48) (by decide) w).mono ?_
 rintro e w' ⟨rfl, rfl⟩;refine ⟨_, rfl, ?_, Below.refl _ _⟩;have e1 : ∀ xs : List Nat, B8 xs → Lib.trimLeftB (xs.map UInt8.ofNat) (UInt8.ofNat 48) = (xs.dropWhile (· == 48)).map UInt8.ofNat := by
  intro xs;unfold Lib.trimLeftB;induction xs with
  | nil => intro _; rfl
  | cons a l ih =>
   intro hx;have ha := hx a (by simp)
   rw [List.map_cons, List.dropWhile_cons, List.dropWhile_cons];by_cases h : a = 48
   ·subst h
    simp only [beq_self_eq_true, if_true];exact ih fun y hy => hx y (by simp [hy])
   ·have h1 : (UInt8.ofNat a == UInt8.ofNat 48) = false := by
     rw [beq_eq_false_iff_ne];exact fun h' => h ((ON ha (by omega)).1 h')
    have h2 : (a == 48) = false := by rw [beq_eq_false_iff_ne]; exact h
    rw [h1, h2];simp
 rw [B6, e1 xs hx];exact (rfl : [_] = [_])
end
abbrev Ad (x : Nat) : List It0 := [.lit (.int .u8 (x : Int))]
theorem Gu {D : List Nat} {i : Nat} (h : i < D.length) : (D.map Ad)[i]? = some (Ad (D.getD i 0)) := by
 rw [List.getElem?_map, List.getD_eq_getElem?_getD, List.getElem?_eq_getElem h]; rfl
theorem AU {D : List Nat} : ∀ r ∈ D.map Ad, Cz r = 1 := by intro r hr; obtain ⟨x, _, rfl⟩ := List.mem_map.1 hr; rfl
section
variable {P : Program} {I : WInv}
theorem Vq (s d e : TypeId) (xs : List Nat) (hs : P.underlying s = some (.slice e) := by kernel_rfl) (he : P.underlying e = some (.int .u8) := by kernel_rfl) (hd : P.underlying d = some .string := by kernel_rfl) : AO P (.conv s d) [tit (slI 1 (xs.map Ad))] (tS xs) := by
 intro N w g vs hv;obtain ⟨v, rfl, A, c, e1, h1, h2, h⟩ := FY hv;injection e1 with e1;subst e1;have hr : Rd .u8 w w.heap.size A xs.length xs := by
  refine ⟨rfl, fun h0 => ?_⟩
  obtain ⟨b, off, hA, hrow⟩ := h (by intro h3; rw [List.map_eq_nil_iff] at h3; rw [h3] at h0; simp at h0)
  have hb : b < w.heap.size := by
   obtain ⟨cs, T, fr, vs, _, q, _⟩ := hrow 0 _ (Gu h0);exact (Array.getElem?_eq_some_iff.1 q).1
  refine ⟨b, off, hA, hb, fun j x hj => ?_⟩
  have hjl := (List.getElem?_eq_some_iff.1 hj).1;obtain ⟨cs, T, fr, vs, _, q1, q2, q3⟩ := hrow j _ (Gu hjl);have hx : xs.getD j 0 = x := by rw [List.getD_eq_getElem?_getD, hj]; rfl
  rw [hx] at q3;obtain ⟨l1, l2, rfl, q4, q5⟩ := q3;have q4 : l1 = [.int .u8 (x : Int)] := q4;have q5 : l2 = [] := q5;subst q4 q5;simp only [World.cell?, q1];simp only [List.cons_append, List.nil_append, List.length_cons, List.length_nil, Nat.zero_add, Nat.mul_one] at q2;have := congrArg (fun l => l[0]?) q2
  simp only [List.getElem?_take, List.getElem?_drop] at this
  simpa using this
 rw [List.length_map] at *;exact ⟨_, w, Gk hs he hd hr, Below.refl _ _, (rfl : [_] = [_])⟩
end
theorem AM (D : List Nat) : ((D.map Ad).flatten.map It.b).all It.okB = true := by
 rw [List.all_eq_true];intro x hx;obtain ⟨y, hy, rfl⟩ := List.mem_map.1 hx;obtain ⟨r, hr, hy⟩ := List.mem_flatten.1 hy;obtain ⟨d, _, rfl⟩ := List.mem_map.1 hr;simp at hy;subst hy
 rfl
def byt (D : List Nat) (i : Nat) : Nat := D.getD i 0
theorem Qt {D : List Nat} {i : Nat} (h : i < D.length) : (D.map Ad)[i]? = some (Ad (byt D i)) := Gu h
abbrev bI (xs : List Nat) : Item := slI 1 (xs.map Ad)
theorem LZ {N : Nat → Prop} {w : World} {xs : List Nat} {l : List Value} (h : (bI xs).T N w l) : ∃ A c, l = [.slice A xs.length c] ∧ Rd .u8 w w.heap.size A xs.length xs ∧ xs.length ≤ c ∧ c ≤ 9223372036854775807 := by
 obtain ⟨A, c, e, h1, h2, h3⟩ := h;rw [List.length_map] at e h1;refine ⟨A, c, e, ⟨rfl, fun h0 => ?_⟩, h1, Nat.le_trans h2 (by simp [maxLen])⟩
 obtain ⟨b, off, hA, hrow⟩ := h3 (by intro h; rw [List.map_eq_nil_iff] at h; rw [h] at h0; simp at h0)
 have hb : b < w.heap.size := by
  obtain ⟨cs, T, fr, vs, _, q, _⟩ := hrow 0 _ (Gu h0);exact (Array.getElem?_eq_some_iff.1 q).1
 refine ⟨b, off, hA, hb, fun j x hj => ?_⟩
 have hjl := (List.getElem?_eq_some_iff.1 hj).1;obtain ⟨cs, T, fr, vs, _, q1, q2, q3⟩ := hrow j _ (Gu hjl);have hx : xs.getD j 0 = x := by rw [List.getD_eq_getElem?_getD, hj]; rfl
 rw [hx] at q3;obtain ⟨l1, l2, rfl, q4, q5⟩ := q3;have q4 : l1 = [.int .u8 (x : Int)] := q4;have q5 : l2 = [] := q5;subst q4 q5;simp only [World.cell?, q1];simp only [List.cons_append, List.nil_append, List.length_cons, List.length_nil, Nat.zero_add, Nat.mul_one] at q2;have := congrArg (fun l => l[0]?) q2
 simp only [List.getElem?_take, List.getElem?_drop] at this
 simpa using this
theorem OM {N : Nat → Prop} {e : TypeId} {w0 w : World} {v : Value} {xs : List Nat} (h : Own .u8 e w0 w v xs) : (bI xs).T (Nx N w0 w) w [v] := by
 rcases h.1.2 with ⟨rfl, hn⟩ | ⟨g, cap, cur, rfl, hg, hh, hnc, hcm, hcs, ht⟩
 ·obtain rfl : xs = [] := List.eq_nil_of_length_eq_zero hn
  exact ⟨none, 0, rfl, Nat.le_refl _, by simp [maxLen], fun hne => absurd rfl hne⟩
 ·refine ⟨some ⟨g, 0, none⟩, cap, by rw [List.length_map], by rw [List.length_map]; exact hnc, hcm, fun hne => ⟨g, 0, rfl, fun i r hi => ?_⟩⟩
  have hil : i < xs.length := by have := (List.getElem?_eq_some_iff.1 hi).1; simpa using this
  rw [Gu hil] at hi;injection hi with hi;subst hi;refine ⟨_, _, _, [.int .u8 ((xs.getD i 0 : Nat) : Int)], .inr ⟨hg, (Array.getElem?_eq_some_iff.1 hh).1⟩, hh, ?_, [_], [], rfl, rfl, rfl⟩;have h2 := congrArg (fun l => l[i]?) ht
  simp only [List.getElem?_take, Dq] at h2;rw [if_pos (by omega), List.getElem?_eq_getElem hil] at h2
  have h3 := (List.getElem?_eq_some_iff.1 h2).1;rw [List.getD_eq_getElem?_getD, List.getElem?_eq_getElem hil];apply List.ext_getElem?;intro j;cases j with
  | zero => simp only [List.getElem?_take, List.getElem?_drop]; simpa using h2
  | succ j => simp; omega
abbrev bbx (xs : List Nat) : Ent := ⟨5, some (1, xs.length), Am (xs.map Ad)⟩
theorem K5 : XLe (.z) (.b (.it (bI []))) := by
 intro N w g l h;have h : l = [.slice none 0 0] := h;exact ⟨none, 0, h, Nat.le_refl _, by simp [maxLen], fun hr => absurd rfl hr⟩
section
variable {P : Program} {I : WInv}
theorem Sb (t e : TypeId) (sz : Nat) (rows : List (List It0)) (m : Nat) (z : Int) (hz : z = (m : Int)) (hm : m ≤ rows.length) (ht : P.underlying t = some (.slice e)) (hs : BB P e = some sz) : AO P (.slc t true false false) [tit (slI sz rows), li z] (tit (slI sz (rows.drop m))) := by
 intro N w g vs hv;obtain ⟨v, x, rfl, ⟨A, c, e1, hc1, hc2, h⟩, h2⟩ := EF hv;injection e1 with e1;subst e1 hz;have h2 : [x] = [.int .i64 (m : Int)] := h2;injection h2 with h2;subst h2;refine ⟨.slice (if c = m then A else A.map (·.add (m * sz))) (rows.length - m) (c - m), w, ?_, Below.refl _ _, ⟨_, c - m, by rw [List.length_drop], by rw [List.length_drop]; omega, by omega, fun hr => ?_⟩⟩
 ·simp [OpK.run, Instr.sliceAt, Instr.slice, Instr.sliceBounds, Instr.sliceBound, asIntOf, AB ht, Cd hs, hm]
 ·have hlt : m < rows.length := by
   by_cases h0 : m < rows.length
   ·exact h0
   ·exact absurd (List.drop_eq_nil_of_le (by omega)) hr
  obtain ⟨b, off, hA, hrow⟩ := h (fun h0 => by rw [h0] at hlt; simp at hlt)
  subst hA;rw [if_neg (by omega)]
  refine ⟨b, off + m * sz, by simp [Addr.add], fun i r hi => ?_⟩
  rw [List.getElem?_drop] at hi;have := (hrow _ _ hi).step (WStep.refl _ w) (N' := Nx N w w) (fun _ h => .inl h)
  rw [show off + m * sz + i * sz = off + (m + i) * sz by rw [Nat.add_mul]; omega]
  exact this
theorem Sa (t e : TypeId) (sz : Nat) (rows : List (List It0)) (m : Nat) (z : Int) (hz : z = (m : Int)) (hm : m ≤ rows.length) (ht : P.underlying t = some (.slice e)) (hs : BB P e = some sz) : AO P (.slc t false true false) [tit (slI sz rows), li z] (tit (slI sz (rows.take m))) := by
 intro N w g vs hv;obtain ⟨v, x, rfl, ⟨A, c, e1, hc1, hc2, h⟩, h2⟩ := EF hv;injection e1 with e1;subst e1 hz;have h2 : [x] = [.int .i64 (m : Int)] := h2;injection h2 with h2;subst h2;have hmc : m ≤ c := by omega
 refine ⟨.slice A m c, w, ?_, Below.refl _ _, ⟨A, c, by rw [List.length_take, Nat.min_eq_left hm], by rw [List.length_take]; omega, hc2, fun hr => ?_⟩⟩
 ·simp [OpK.run, Instr.sliceAt, Instr.slice, Instr.sliceBounds, Instr.sliceBound, asIntOf, AB ht, Cd hs, hmc]
  intro _;cases A with
  | none => rfl
  | some a => simp [Addr.add]
 ·obtain ⟨b, off, hA, hrow⟩ := h (fun h0 => hr (by rw [h0]; simp))
  refine ⟨b, off, hA, fun i r hi => ?_⟩
  rw [List.getElem?_take] at hi;split at hi
  ·exact (hrow i r hi).step (WStep.refl _ _) (fun _ h => .inl h)
  ·cases hi
theorem Ay (xs : List Nat) (m : Nat) (z : Int) (hz : z = (m : Int)) (hm : m ≤ xs.length) : AO Tryz.prog (.slc 31 true false false) [tit (bI xs), li z] (tit (bI (xs.drop m))) := by
 have := Sb (P := Tryz.prog) 31 5 1 (xs.map Ad) m z hz (by rw [List.length_map]; exact hm) (by kernel_rfl) (by kernel_rfl)
 rwa [← List.map_drop] at this
theorem Vu (xs : List Nat) (m : Nat) (z : Int) (hz : z = (m : Int)) (hm : m ≤ xs.length) : AO Tryz.prog (.slc 31 false true false) [tit (bI xs), li z] (tit (bI (xs.take m))) := by
 have := Sa (P := Tryz.prog) 31 5 1 (xs.map Ad) m z hz (by rw [List.length_map]; exact hm) (by kernel_rfl) (by kernel_rfl)
 rwa [← List.map_take] at this
theorem KV (xs : List Nat) (ty : TypeId) (n : Int) (hn : n = (xs.length : Int)) : AO Tryz.prog (.len #[31] ty) [tit (bI xs)] (li n) := BH 31 5 ty 1 (xs.map Ad) n (by kernel_rfl) (by rw [List.length_map]; omega)
theorem GB (xs : List Nat) : AO Tryz.prog (.conv 31 9) [tit (bI xs)] (tS xs) := Vq 31 9 5 xs
end
section
variable {I : WInv}
theorem GO {N : Nat → Prop} {w w' : World} {xs : List Nat} {err : Int} {t : TypeId} {e : Ending} (h : D1 .u8 t w xs err e w') : ∃ v, e = .returned v ∧ (TV.tu [.t (bI xs), ci err]).sem (Nx N w w') w' G0 v ∧ Below w.heap.size w w' := by
 obtain ⟨v, e1, h1⟩ := h;exact ⟨_, e1, ⟨_, rfl, _, _, rfl, OM h1, _, _, rfl, rfl, rfl⟩, h1.2⟩
theorem WP (n : Int) : Sp Tryz.prog I 88 [ci n] (.tu [.t (bI (Pg n).1), ci (Pg n).2]) := by
 intro N w vs _ _ hv;rw [Hm hv];exact (KN n w).mono fun e w' he => GO he
theorem WR (n : Int) : Sp Tryz.prog I 93 [ci n] (.tu [.t (bI (Rw n).1), ci (Rw n).2]) := by
 intro N w vs _ _ hv;rw [Hm hv];exact (Ll n w).mono fun e w' he => GO he
theorem WQ {xs : List Nat} (hx : B8 xs) (hl : xs.length ≤ 1000000) : Sp Tryz.prog I 92 [cS xs] (.tu [.t (bI (Ru (Au xs)).1), ci (Ru (Au xs)).2]) := by
 intro N w vs _ _ hv;rw [Hm hv];exact (KO (Au xs) w (by rw [AZ]; omega)).mono fun e w' he => GO he
theorem WV {xs : List Nat} (hx : B8 xs) : Sp Tryz.prog I 66 [.t (bI xs)] (.tu [ci ((AJ xs).1 : Nat), ci ((AJ xs).2.1 : Nat), ci ((AJ xs).2.2 : Nat)]) := by
 intro N w vs _ hN hv;obtain ⟨v, r, rfl, h, h'⟩ := hv;have h' : r = [] := h';subst h';obtain ⟨A, c, e1, h1, h2, h3⟩ := LZ h;injection e1 with e1;subst e1;refine (CL w h1 hx (by omega)).mono fun e w' ⟨he, hw⟩ => ?_
 subst he hw;exact ⟨_, rfl, ⟨_, rfl, _, _, rfl, rfl, _, _, rfl, rfl, _, _, rfl, rfl, rfl⟩, Below.refl _ _⟩
theorem WX {xs : List Nat} (hx : B8 xs) : Sp Tryz.prog I 106 [.t (bI xs)] (.tu [ci (Eg xs).1, ci ((Eg xs).2.1 : Nat), ci ((Eg xs).2.2 : Nat)]) := by
 intro N w vs _ hN hv;obtain ⟨v, r, rfl, h, h'⟩ := hv;have h' : r = [] := h';subst h';obtain ⟨A, c, e1, h1, h2, h3⟩ := LZ h;injection e1 with e1;subst e1;refine (Lm w h1 hx (by omega)).mono fun e w' ⟨he, hw⟩ => ?_
 subst he hw;exact ⟨_, rfl, ⟨_, rfl, _, _, rfl, rfl, _, _, rfl, rfl, _, _, rfl, rfl, rfl⟩, Below.refl _ _⟩
theorem WW {xs : List Nat} (hx : B8 xs) : Sp Tryz.prog I 105 [.t (bI xs)] (.tu [cS (Cy xs).1, ci ((Cy xs).2.1 : Nat), ci ((Cy xs).2.2 : Nat)]) := by
 intro N w vs _ hN hv;obtain ⟨v, r, rfl, h, h'⟩ := hv;have h' : r = [] := h';subst h';obtain ⟨A, c, e1, h1, h2, h3⟩ := LZ h;injection e1 with e1;subst e1;refine (KR w h1 hx h2 h3).mono fun e w' ⟨he, hw⟩ => ?_
 subst he hw;exact ⟨_, rfl, ⟨_, rfl, _, _, rfl, rfl, _, _, rfl, rfl, _, _, rfl, rfl, rfl⟩, Below.refl _ _⟩
end
theorem JO (c : Nat) (l : List Nat) : nd (c :: l) = (c - 48) * 10 ^ l.length + nd l := by
 have h := HO [c] l;rw [show [c] ++ l = c :: l from rfl, show nd [c] = 0 * 10 + (c - 48) from rfl, Nat.zero_mul, Nat.zero_add] at h;exact h
theorem SV {l : List Nat} (h : Gc l) (h1 : l ≠ [48]) : 0 < nd l := by
 obtain ⟨h2, h3, h4⟩ := h;cases l with
 | nil => exact absurd rfl h2
 | cons c r =>
  have hc := h3 c (by simp)
  by_cases h0 : c = 48
  ·subst h0
   exfalso;cases r with
   | nil => exact h1 rfl
   | cons a r => exact h4 ⟨by simp, by simp⟩
  ·rw [JO]
   have : 0 < (c - 48) * 10 ^ r.length := Nat.mul_pos (by omega) (Nat.pow_pos (by omega))
   omega
theorem W0 (k : Nat) : nd (List.replicate k 48) = 0 := by
 induction k with
 | zero => rfl
 | succ k ih => rw [List.replicate_succ, JO, ih]; simp
theorem Wz (k : Nat) : nd (49 :: List.replicate k 48) = 10 ^ k := by
 rw [JO, W0, List.length_replicate]; simp
theorem N4 (l : List Nat) : nd (l.dropWhile (· == 48)) = nd l := by
 induction l with
 | nil => rfl
 | cons c r ih =>
  rw [List.dropWhile_cons];by_cases h : c = 48
  ·subst h
   simp only [beq_self_eq_true, if_true];rw [ih, JO]; simp
  ·have : (c == 48) = false := by rw [beq_eq_false_iff_ne]; exact h
   rw [this]; rfl
theorem okD.rep (k : Nat) : okD (List.replicate k 48) := fun c hc => by have := List.eq_of_mem_replicate hc; omega
theorem okD.cons {c : Nat} {l : List Nat} (h : 48 ≤ c ∧ c ≤ 57) (hl : okD l) : okD (c :: l) := fun x hx => by
 rcases List.mem_cons.1 hx with h1 | h1
 ·rw [h1]; exact h
 ·exact hl x h1
theorem okD.app {a b : List Nat} (h : okD a) (hl : okD b) : okD (a ++ b) := fun x hx => (List.mem_append.1 hx).elim (h x) (hl x)
theorem okD.b8 {l : List Nat} (h : okD l) : B8 l := fun x hx => by have := h x hx; omega
theorem Oe (k : Nat) : Gc (49 :: List.replicate k 48) := ⟨by simp, okD.cons (by omega) (okD.rep k), by simp⟩
theorem Pp {l : List Nat} (h : okD l) (h1 : l.dropWhile (· == 48) ≠ []) : Gc (l.dropWhile (· == 48)) := by
 refine ⟨h1, fun c hc => h c ((List.dropWhile_sublist _).subset hc), fun g => ?_⟩
 have hd := List.head_dropWhile_not (· == 48) h1;obtain ⟨g1, _⟩ := g;generalize l.dropWhile (· == 48) = m at *;cases m with
 | nil => exact h1 rfl
 | cons a m =>
  simp at g1 hd;omega
theorem Of {l : List Nat} (h : Gc l) : Bd l = false ∧ AK l = l := by
 have h1 : Bd l = false := by
  unfold Bd;rw [beq_eq_false_iff_ne];have := h.2.1.getD (k := 0) (List.length_pos_iff.2 h.1);omega
 exact ⟨h1, by unfold AK; rw [h1]; rfl⟩
theorem FO {l : List Nat} (h : Gc l) (hl : l.length ≤ 400) : PA l (nd l : Nat) 0 := by
 obtain ⟨h1, h2⟩ := Of h;refine .inr (.inl ⟨hl, ?_, rfl, ?_⟩)
 ·rw [h1, h2]; exact ⟨h, fun g => by cases g.1⟩
 ·rw [h1, h2]; rfl
theorem GS {l : List Nat} (h : Cs (Bd l) (AK l)) (hl : l.length ≤ 400) : PA l (sgn (Bd l) (nd (AK l))) 0 := .inr (.inl ⟨hl, h, rfl, rfl⟩)
theorem Mx {l : List Nat} (h : ¬ Cs (Bd l) (AK l)) (hl : l.length ≤ 400) : PA l 0 1 := .inr (.inr ⟨hl, h, rfl, rfl⟩)
theorem NM {l : List Nat} (h : Cs (Bd l) (AK l)) (hd : ¬ Gc l) : sgn (Bd l) (nd (AK l)) < 0 := by
 cases hn : Bd l with
 | false =>
  exfalso;rw [hn] at h;have : AK l = l := by unfold AK; rw [hn]; rfl
  rw [this] at h;exact hd h.1
 | true =>
  rw [hn] at h;have := SV h.1 (fun e => h.2 ⟨rfl, e⟩)
  rw [V9];omega
theorem OJ : (10 : Nat) ^ 800 < 4294967296 ^ 84 := by decide +kernel
theorem CI {l : List Nat} (h : okD l) (hl : l.length ≤ 800) : Lim 84 (nd l : Nat) := by
 unfold Lim;have h1 := N3 _ l rfl h;rw [Int.natAbs_natCast];exact Nat.lt_of_lt_of_le h1 (Nat.le_trans (Nat.pow_le_pow_right (by omega) hl) (Nat.le_of_lt OJ))
theorem P9 {k : Nat} (hk : k ≤ 800) : Lim 84 ((10 ^ k : Nat) : Int) := by
 unfold Lim;rw [Int.natAbs_natCast];exact Nat.lt_of_le_of_lt (Nat.pow_le_pow_right (by omega) hk) OJ
theorem VX (k : Nat) : ((10 ^ k : Nat) : Int) ≠ 0 := by
 have : 0 < 10 ^ k := Nat.pow_pos (by omega)
 omega
theorem Lim.sgn {k : Nat} {n : Nat} (h : Lim k (n : Int)) (s : Bool) : Lim k (sgn s n) := by
 unfold Lim at *;rw [Ba]
 rwa [Int.natAbs_natCast] at h
theorem Hc (z : Int) : B8 (BK z) := by
 intro c hc;unfold BK C8 at hc;rcases List.mem_append.1 hc with h | h
 ·split at h <;> simp at h; omega
 ·exact Ji _ c h
theorem NS (n : Nat) : BK (n : Int) = dec n := by
 unfold BK C8;rw [Int.natAbs_natCast, if_neg (fun h => by have := of_decide_eq_true h.1; omega)]
 rfl
theorem G6 (z : Int) : ∀ c ∈ BK z, c = 45 ∨ (48 ≤ c ∧ c ≤ 57) := by
 intro c hc;unfold BK C8 at hc;rcases List.mem_append.1 hc with h | h
 ·split at h <;> simp at h; exact .inl h
 ·exact .inr (E8 _ c h)
theorem Tp (d : Nat) : BK (d : Int) = [49] ↔ d = 1 := by
 rw [NS];constructor
 ·intro h
  have := Gy d;rw [h] at this;exact this.symm
 ·intro h; rw [h, BO (by omega)]
theorem Ha {z : Int} {k : Nat} (h : Lim k z) : (BK z).length ≤ 18 * k + 2 := by
 unfold BK;by_cases h0 : z.natAbs = 0
 ·rw [h0, E6]; simp
 ·have := LR z.natAbs h0
  have h2 := AV h;unfold C8;rw [List.length_append];split <;> simp <;> omega
theorem SN (z : Int) (h : (BK z).length ≤ 400) : PA (BK z) z 0 := by
 have := V5 (decide (z < 0)) z.natAbs h;have e : sgn (decide (z < 0)) z.natAbs = z := by
  unfold sgn;by_cases h0 : z < 0
  ·rw [decide_eq_true h0]; simp; omega
  ·rw [decide_eq_false h0]; simp; omega
 rwa [e] at this
theorem KS (n : Nat) : Gc (dec n) := (Og false n (.inr rfl)).1
def Bl (q : Rat) : List Nat := if q.den = 1 then BK q.num else BK q.num ++ ([47] ++ BK (q.den : Int))
theorem GZ (q : Rat) : B8 (Bl q) := by
 unfold Bl;split
 ·exact Hc _
 ·exact (Hc _).app (B8.app (fun x hx => by simp at hx; omega) (Hc _))
theorem KI (q : Rat) (h : q.den ≠ 1) : Cv 47 (Bl q) = some (BK q.num).length := by
 unfold Bl;rw [if_neg h];exact NJ fun x hx => by have := G6 _ x hx; omega
theorem LL (q : Rat) (h : q.den = 1) : Cv 47 (Bl q) = none ∧ Cv 46 (Bl q) = none := by
 unfold Bl;rw [if_pos h];exact ⟨MC fun x hx => by have := G6 _ x hx; omega, MC fun x hx => by have := G6 _ x hx; omega⟩
theorem Sp.inv {P : Program} {I I' : WInv} {f : FuncId} {args : List CT} {res : TV} (h : Sp P I f args res) (hi : ∀ N w, I'.T N w → I.T N w) : Sp P I' f args res := fun N w vs hI hl hv => h N w vs (hi N w hI) hl hv
def Ai : WInv := ⟨fun N w => CQ.T N w ∧ (∃ m : Int, w.cell? ⟨0, 0, none⟩ = some (.int .i64 m)) ∧ N 0, fun {N N' w w'} hw hN ⟨h1, ⟨m, h2⟩, h3⟩ => ⟨CQ.step hw hN h1, ⟨m, by
 have hlt : 0 < w.heap.size := by
  rcases Nat.lt_or_ge 0 w.heap.size with h' | h'
  ·exact h'
  ·unfold World.cell? at h2
   rw [Array.getElem?_eq_none h'] at h2;simp at h2
 rcases hw.keep _ hlt with e | e
 ·unfold World.cell? at h2 ⊢
  rw [e]; exact h2
 ·exact absurd h3 e.1⟩, hN _ h3⟩⟩
theorem RV : ∀ N w, Ai.T N w → CQ.T N w := fun N w h => h.1
theorem VM {c : Nat} (hc : c < 256) {xs : List Nat} (hx : B8 xs) : Lib.cut (Au xs).data.toList (Au [c]).data.toList = match Cv c xs with
  | some i => ((xs.take i).map UInt8.ofNat, (xs.drop (i + 1)).map UInt8.ofNat, true)
  | none => (xs.map UInt8.ofNat, [], false) := by
 rw [B6, B6, show [c].map UInt8.ofNat = [UInt8.ofNat c] from rfl];unfold Lib.cut;rw [KD hc hx];cases Cv c xs with
 | none => simp
 | some i =>
  have : (0 : Int) ≤ (i : Int) := by omega
  simp [this, List.map_take, List.map_drop]
theorem KT {c i : Nat} (hc : c < 256) {xs : List Nat} (hx : B8 xs) (hl : xs.length ≤ 1000000) (hi : Cv c xs = some i) : Sp Tryz.prog Ai 100 [cS xs, cS [c]] (.tu [cS (xs.take i), cS (xs.drop (i + 1)), cb true]) := by
 intro N w vs hI _ hv;obtain ⟨v, r, rfl, h1, v2, r2, rfl, h3, h4⟩ := hv;have h1 : [v] = [.string (Au xs)] := h1;have h3 : [v2] = [.string (Au [c])] := h3;injection h1 with h1;injection h3 with h3;obtain rfl : r2 = [] := h4;subst h1 h3;obtain ⟨m, hm⟩ := hI.2.1;refine (Tryz.strings_Cut (Au xs) (Au [c]) m w (by rw [AZ]; omega) hm).mono ?_
 rintro e w' ⟨rfl, n, rfl⟩;rw [VM hc hx, hi];exact ⟨_, rfl, ⟨_, rfl, _, _, rfl, (rfl : [_] = [_]), _, _, rfl, (rfl : [_] = [_]), _, _, rfl, (rfl : [_] = [_]), rfl⟩, J1 w n⟩
theorem FC {c : Nat} (hc : c < 256) {xs : List Nat} (hx : B8 xs) (hl : xs.length ≤ 1000000) (hi : Cv c xs = none) : Sp Tryz.prog Ai 100 [cS xs, cS [c]] (.tu [cS xs, cS [], cb false]) := by
 intro N w vs hI _ hv;obtain ⟨v, r, rfl, h1, v2, r2, rfl, h3, h4⟩ := hv;have h1 : [v] = [.string (Au xs)] := h1;have h3 : [v2] = [.string (Au [c])] := h3;injection h1 with h1;injection h3 with h3;obtain rfl : r2 = [] := h4;subst h1 h3;obtain ⟨m, hm⟩ := hI.2.1;refine (Tryz.strings_Cut (Au xs) (Au [c]) m w (by rw [AZ]; omega) hm).mono ?_
 rintro e w' ⟨rfl, n, rfl⟩;rw [VM hc hx, hi];exact ⟨_, rfl, ⟨_, rfl, _, _, rfl, (rfl : [_] = [_]), _, _, rfl, (rfl : [_] = [_]), _, _, rfl, (rfl : [_] = [_]), rfl⟩, J1 w n⟩
section
variable {I : WInv} {n d : Int} {k0 : Nat} {q1 q2 : IntP}
theorem b49 : B8 [49] := by intro x hx; simp at hx; omega
theorem Wq (h1 : Fk q1 q2 n d k0) (hk0 : k0 ≤ 1000) : Sp Tryz.prog CQ 37 [fr q1 q2] (tS (Bl (Rat.divInt n d))) := by
 have pa := SL (I := CQ) h1.a h1.b h1.big.1 h1.big.2;have hd := Wt d;have re := D3 (I := CQ) (SQ (pn n d)) (SQ (pd d)) ((Ws h1.ln d).mono (by omega)) ((Wu h1.ld h1.k0).mono (by omega)) (by omega)
 rw [Xw] at re;have lq := h1.lq;generalize Rat.divInt n d = q at *;have fn := VI (AQ lq.n (by omega))
 have fd := VI (AQ lq.d (by omega))
 have ln := Ha lq.n;have ld := Ha lq.d;have bn := Hc q.num;have bd := Hc (q.den : Int);have h1' := Tp q.den;unfold Bl;by_cases h : q.den = 1
 ·rw [if_pos h]
  exact sr 28 [po pa, po re, po fn, po fd, pk (Hs 9 (BK (q.den : Int)) [49] false (decide_eq_true (h1'.2 h)) bd b49)]
 ·rw [if_neg h]
  exact sr 28 [po pa, po re, po fn, po fd, pk (Hs 9 (BK (q.den : Int)) [49] true (decide_eq_false (fun e => h (h1'.1 e))) bd b49), pk (Fo 9 [47] (BK (q.den : Int)) (by simp; omega)), pk (Fo 9 (BK q.num) ([47] ++ BK (q.den : Int)) (by simp; omega))]
end
def Dp (n : Int) : Bool := decide (0 ≤ n) && decide (n ≤ 1099511627776)
def AP (x : Ch) : Bool := Dp x.node && Dp x.fst && Dp x.nxt && CN x.cost && (if x.kind = 1 then decide (x.fst = 0) && decide (x.nxt = 0) && decide (x.cost = 0) else if x.kind = 2 then decide (x.q.num.sign = 0) && decide (x.cost = 0) else if x.kind = 3 then decide (x.q.num.sign = 0) && decide (x.fst = 0) && decide (x.nxt = 0) && decide (x.node = 0) else false)
def LE (x : Ch) : List Nat := if x.kind = 1 then Aa (Bl x.q).length ++ Bl x.q else if x.kind = 2 then Aa x.fst.toNat ++ Aa x.nxt.toNat else Aa (zig x.cost)
def AT (x : Ch) : List Nat × Int := if AP x = false then ([], 5) else if x.kind = 1 ∧ 400 < (Bl x.q).length then ([], 10) else (Aa x.kind.toNat ++ Aa x.node.toNat ++ LE x, 0)
abbrev chK (c : Bool) (k : Nat) (x : Ch) : CT := .ag [.i x.kind, .i x.node, .b (.it (fF c k x.q)), .i x.fst, .i x.nxt, .i x.cost]
abbrev Xm : Ent := ⟨67, none, [.z, .i 0]⟩
abbrev wbx (k : Nat) : Ent := ⟨67, none, [.sl k, .i 0]⟩
theorem Vb {n : Nat} (h : n ≤ 4611686018427387904) : Pg (n : Int) = (Aa n, 0) := by unfold Pg; rw [if_pos ⟨by omega, by omega⟩]; rfl
theorem M0 {n : Int} (h : Dp n = true) : 0 ≤ n ∧ n ≤ 1099511627776 := by unfold Dp at h; simpa using h
theorem C5 {n : Int} (h : CN n = true) : -288230376151711744 ≤ n ∧ n ≤ 288230376151711744 := by unfold CN at h; simpa using h
section
variable {I : WInv} {c : Bool} {k : Nat}
theorem Qn (n : Nat) (h : n ≤ 4611686018427387904) : Sp Tryz.prog I 88 [ci (n : Int)] (.tu [.t (bI (Aa n)), ci 0]) := by
 have := WP (I := I) (n : Int)
 rwa [Vb h] at this
theorem Vc (z : Int) (h : CN z = true) : Sp Tryz.prog I 93 [ci z] (.tu [.t (bI (Aa (zig z))), ci 0]) := by
 have := WR (I := I) z;have hc := C5 h;unfold Rw at this
 rwa [if_pos ⟨by omega, by omega⟩] at this
theorem Va {xs : List Nat} (hx : B8 xs) (h : xs.length ≤ 400) : Sp Tryz.prog I 92 [cS xs] (.tu [.t (bI (Aa xs.length ++ xs)), ci 0]) := by
 have := WQ (I := I) hx (by omega)
 unfold Ru at this
 rwa [AZ, if_pos (by omega), hx.bo] at this
theorem Vz (xs : List Nat) (hl : xs.length ≤ 1000000) : SpM Tryz.prog I 87 [(0, some Xm)] [.one (.ptr 0 0), .t (bI xs), ci 0] [(2, some (bbx xs)), (0, some (wbx 2))] (.tu []) :=
 sm 24 [pa, ⟨.src 1 (bI xs) ((xs).map Ad).length ((xs).map Ad).flatten, BT AU (AM _)⟩, ⟨.ap 0 (((xs).map Ad).length) 1, ⟨by simp; omega, by simp [maxLen]; omega⟩⟩, pm ((show Leads I _ ⟨[], [(19, some ⟨5, some (1, ((xs).map Ad).length), ((xs).map Ad).flatten.map It.b⟩), (0, some ⟨67, none, [.sl 19, .i 0]⟩)], 23⟩ ⟨[], [(2, some ⟨5, some (1, (xs).length), Am ((xs).map Ad)⟩), (0, some ⟨67, none, [.sl 2, .i 0]⟩)], 23⟩ from Bj [(2, 19)] trivial ⟨rfl, rfl, (congrArg (fun m => some (1, m)) (show ((xs).map Ad).length = (xs).length by simp)), ILe.eq (show ((xs).map Ad).flatten.map It.b = Am ((xs).map Ad) from by simp [Am]), rfl, rfl, rfl, ILe.refl, trivial⟩))]
theorem MN (ys xs : List Nat) (hl : xs.length ≤ 1000000) (hy : ys.length ≤ 1000000) : SpM Tryz.prog I 87 [(0, some (wbx 1)), (1, some (bbx ys))] [.one (.ptr 0 0), .t (bI xs), ci 0] [(2, some (bbx (ys ++ xs))), (0, some (wbx 2))] (.tu []) :=
 sm 24 [pa, ⟨.src 1 (bI xs) ((xs).map Ad).length ((xs).map Ad).flatten, BT AU (AM _)⟩, ⟨.ap ((ys).length) (((xs).map Ad).length) 1, ⟨by simp; omega, by simp [maxLen]; omega⟩⟩, pm ((show Leads I _ ⟨[], [(19, some ⟨5, some (1, (ys).length + ((xs).map Ad).length), (Am ((ys).map Ad)) ++ (((xs).map Ad).flatten.map It.b)⟩), (0, some ⟨67, none, [.sl 19, .i 0]⟩)], 23⟩ ⟨[], [(2, some ⟨5, some (1, (ys ++ xs).length), Am ((ys ++ xs).map Ad)⟩), (0, some ⟨67, none, [.sl 2, .i 0]⟩)], 23⟩ from Bj [(2, 19)] trivial ⟨rfl, rfl, (congrArg (fun m => some (1, m)) (show (ys).length + ((xs).map Ad).length = (ys ++ xs).length by simp)), ILe.eq (show (Am ((ys).map Ad)) ++ (((xs).map Ad).flatten.map It.b) = Am ((ys ++ xs).map Ad) from by simp [Am]), rfl, rfl, rfl, ILe.refl, trivial⟩ (hnp := ⟨fun _ => BN (As _) (As _), fun h => absurd h Bool.false_ne_true, trivial⟩)))]
theorem FI (n : Nat) (h : n ≤ 4611686018427387904) : SpM Tryz.prog I 36 [(0, some Xm)] [.one (.ptr 0 0), ci (n : Int)] [(2, some (bbx (Aa n))), (0, some (wbx 2))] (.tu []) := by
 have h9 := At h;exact sm 10 [po (Qn n h), pom [0] (Vz (Aa n) (by omega)), pm ((show Leads I _ ⟨[], [(8, some ⟨5, some (1, (Aa n).length), Am ((Aa n).map Ad)⟩), (0, some ⟨67, none, [.sl 8, .i 0]⟩)], 9⟩ ⟨[], [(2, some ⟨5, some (1, (Aa n).length), Am ((Aa n).map Ad)⟩), (0, some ⟨67, none, [.sl 2, .i 0]⟩)], 9⟩ from Bj [(2, 8)] trivial ⟨rfl, rfl, (congrArg (fun m => some (1, m)) (show (Aa n).length = (Aa n).length by simp)), ILe.eq (show Am ((Aa n).map Ad) = Am ((Aa n).map Ad) from by simp [Am]), rfl, rfl, rfl, ILe.refl, trivial⟩))]
theorem D2 (ys : List Nat) (hy : ys.length ≤ 1000000) (n : Nat) (h : n ≤ 4611686018427387904) : SpM Tryz.prog I 36 [(0, some (wbx 1)), (1, some (bbx ys))] [.one (.ptr 0 0), ci (n : Int)] [(2, some (bbx (ys ++ Aa n))), (0, some (wbx 2))] (.tu []) := by
 have h9 := At h;exact sm 10 [po (Qn n h), pom [0, 1] (MN (ys) (Aa n) (by omega) (by omega)), pm ((show Leads I _ ⟨[], [(8, some ⟨5, some (1, (ys ++ (Aa n)).length), Am ((ys ++ (Aa n)).map Ad)⟩), (0, some ⟨67, none, [.sl 8, .i 0]⟩)], 9⟩ ⟨[], [(2, some ⟨5, some (1, (ys ++ (Aa n)).length), Am ((ys ++ (Aa n)).map Ad)⟩), (0, some ⟨67, none, [.sl 2, .i 0]⟩)], 9⟩ from Bj [(2, 8)] trivial ⟨rfl, rfl, (congrArg (fun m => some (1, m)) (show (ys ++ (Aa n)).length = (ys ++ (Aa n)).length by simp)), ILe.eq (show Am ((ys ++ (Aa n)).map Ad) = Am ((ys ++ (Aa n)).map Ad) from by simp [Am]), rfl, rfl, rfl, ILe.refl, trivial⟩))]
theorem RK (ys : List Nat) (hy : ys.length ≤ 1000000) (z : Int) (h : CN z = true) : SpM Tryz.prog I 39 [(0, some (wbx 1)), (1, some (bbx ys))] [.one (.ptr 0 0), ci z] [(2, some (bbx (ys ++ Aa (zig z)))), (0, some (wbx 2))] (.tu []) := by
 have h9 := At (Hq z (by have := C5 h; omega) (by have := C5 h; omega))
 exact sm 10 [po (Vc z h), pom [0, 1] (MN (ys) (Aa (zig z)) (by omega) (by omega)), pm ((show Leads I _ ⟨[], [(8, some ⟨5, some (1, (ys ++ (Aa (zig z))).length), Am ((ys ++ (Aa (zig z))).map Ad)⟩), (0, some ⟨67, none, [.sl 8, .i 0]⟩)], 9⟩ ⟨[], [(2, some ⟨5, some (1, (ys ++ (Aa (zig z))).length), Am ((ys ++ (Aa (zig z))).map Ad)⟩), (0, some ⟨67, none, [.sl 2, .i 0]⟩)], 9⟩ from Bj [(2, 8)] trivial ⟨rfl, rfl, (congrArg (fun m => some (1, m)) (show (ys ++ (Aa (zig z))).length = (ys ++ (Aa (zig z))).length by simp)), ILe.eq (show Am ((ys ++ (Aa (zig z))).map Ad) = Am ((ys ++ (Aa (zig z))).map Ad) from by simp [Am]), rfl, rfl, rfl, ILe.refl, trivial⟩))]
theorem Q5 (ys : List Nat) (hy : ys.length ≤ 1000000) {xs : List Nat} (hx : B8 xs) (h : xs.length ≤ 400) : SpM Tryz.prog I 38 [(0, some (wbx 1)), (1, some (bbx ys))] [.one (.ptr 0 0), cS xs] [(2, some (bbx (ys ++ (Aa xs.length ++ xs)))), (0, some (wbx 2))] (.tu []) := by
 have h9 := At (n := xs.length) (by omega)
 have hl : (Aa xs.length ++ xs).length ≤ 1000 := by rw [List.length_append]; omega
 exact sm 10 [po (Va hx h), pom [0, 1] (MN (ys) (Aa xs.length ++ xs) (by omega) (by omega)), pm ((show Leads I _ ⟨[], [(8, some ⟨5, some (1, (ys ++ (Aa xs.length ++ xs)).length), Am ((ys ++ (Aa xs.length ++ xs)).map Ad)⟩), (0, some ⟨67, none, [.sl 8, .i 0]⟩)], 9⟩ ⟨[], [(2, some ⟨5, some (1, (ys ++ (Aa xs.length ++ xs)).length), Am ((ys ++ (Aa xs.length ++ xs)).map Ad)⟩), (0, some ⟨67, none, [.sl 2, .i 0]⟩)], 9⟩ from Bj [(2, 8)] trivial ⟨rfl, rfl, (congrArg (fun m => some (1, m)) (show (ys ++ (Aa xs.length ++ xs)).length = (ys ++ (Aa xs.length ++ xs)).length by simp)), ILe.eq (show Am ((ys ++ (Aa xs.length ++ xs)).map Ad) = Am ((ys ++ (Aa xs.length ++ xs)).map Ad) from by simp [Am]), rfl, rfl, rfl, ILe.refl, trivial⟩))]
theorem Ar (n : Int) (b : Bool) (h : Dp n = b) : Sp Tryz.prog I 85 [ci n] (lb b) := by
 unfold Dp at h;by_cases h1 : 0 ≤ n
 ·by_cases h2 : n ≤ 1099511627776
  ·rw [decide_eq_true h1, decide_eq_true h2] at h; subst h
   exact sr 9 [pk (Jm 3 n 0), pk (Py 3 n 1099511627776)]
  ·rw [decide_eq_true h1, decide_eq_false h2] at h; subst h
   exact sr 9 [pk (Jm 3 n 0), pk (Pz 3 n 1099511627776)]
 ·rw [decide_eq_false h1] at h; subst h
  exact sr 9 [pk (MK 3 n 0)]
set_option maxRecDepth 100000 in
theorem XG (x : Ch) (hk : k ≤ 262144) : Sp Tryz.prog I 35 [chK c k x] (lb (AP x)) := by
 cases h1 : Dp x.node
 ·rw [show AP x = false by unfold AP; simp [h1] <;> decide]
  exact sr 76 [po (Ar x.node false h1), pa]
 ·cases h2 : Dp x.fst
  ·rw [show AP x = false by unfold AP; simp [h1, h2] <;> decide]
   exact sr 76 [po (Ar x.node true h1), pa, po (Ar x.fst false h2), pa]
  ·cases h3 : Dp x.nxt
   ·rw [show AP x = false by unfold AP; simp [h1, h2, h3] <;> decide]
    exact sr 76 [po (Ar x.node true h1), pa, po (Ar x.fst true h2), pa, po (Ar x.nxt false h3), pa]
   ·cases h4 : CN x.cost
    ·have h5 := h4
     unfold CN at h5;simp at h5;by_cases h6 : x.cost < -288230376151711744
     ·rw [show AP x = false by unfold AP; simp [h1, h2, h3, h4] <;> decide]
      exact sr 76 [po (Ar x.node true h1), pa, po (Ar x.fst true h2), pa, po (Ar x.nxt true h3), pa, pk (Ce 3 x.cost (-288230376151711744))]
     ·rw [show AP x = false by unfold AP; simp [h1, h2, h3, h4] <;> decide]
      exact sr 76 [po (Ar x.node true h1), pa, po (Ar x.fst true h2), pa, po (Ar x.nxt true h3), pa, pk (AF 3 x.cost (-288230376151711744)), pk (Dd 3 x.cost 288230376151711744)]
    ·have hcc := C5 h4
     by_cases hq : x.q.num.sign = 0
     ·by_cases hf : x.fst = 0
      ·by_cases hn : x.nxt = 0
       ·by_cases k1 : x.kind = 1
        ·by_cases hz : x.cost = 0
         ·rw [show AP x = true by unfold AP; simp [h1, h2, h3, h4, hq, hf, hn, k1, hz] <;> decide]
          exact sr 76 [po (Ar x.node true h1), pa, po (Ar x.fst true h2), pa, po (Ar x.nxt true h3), pa, pk (AF 3 x.cost (-288230376151711744)), pk (Av 3 x.cost 288230376151711744), po (BC (p := x.q) (c := c) (k := k) x.q.num.sign rfl hk), pk (Aw 3 x.q.num.sign 0), pk (Aw 3 x.fst 0), pk (Aw 3 x.nxt 0), pk (An 3 x.kind 1), pa, pk (An 3 x.cost 0)]
         ·rw [show AP x = false by unfold AP; simp [h1, h2, h3, h4, hq, hf, hn, k1, hz] <;> decide]
          exact sr 76 [po (Ar x.node true h1), pa, po (Ar x.fst true h2), pa, po (Ar x.nxt true h3), pa, pk (AF 3 x.cost (-288230376151711744)), pk (Av 3 x.cost 288230376151711744), po (BC (p := x.q) (c := c) (k := k) x.q.num.sign rfl hk), pk (Aw 3 x.q.num.sign 0), pk (Aw 3 x.fst 0), pk (Aw 3 x.nxt 0), pk (An 3 x.kind 1), pa, pk (Ae 3 x.cost 0)]
        ·by_cases k2 : x.kind = 2
         ·by_cases hz : x.cost = 0
          ·rw [show AP x = true by unfold AP; simp [h1, h2, h3, h4, hq, hf, hn, k1, k2, hz] <;> decide]
           exact sr 76 [po (Ar x.node true h1), pa, po (Ar x.fst true h2), pa, po (Ar x.nxt true h3), pa, pk (AF 3 x.cost (-288230376151711744)), pk (Av 3 x.cost 288230376151711744), po (BC (p := x.q) (c := c) (k := k) x.q.num.sign rfl hk), pk (Aw 3 x.q.num.sign 0), pk (Aw 3 x.fst 0), pk (Aw 3 x.nxt 0), pk (Ae 3 x.kind 1), pk (An 3 x.kind 2), pa, pk (An 3 x.cost 0)]
          ·rw [show AP x = false by unfold AP; simp [h1, h2, h3, h4, hq, hf, hn, k1, k2, hz] <;> decide]
           exact sr 76 [po (Ar x.node true h1), pa, po (Ar x.fst true h2), pa, po (Ar x.nxt true h3), pa, pk (AF 3 x.cost (-288230376151711744)), pk (Av 3 x.cost 288230376151711744), po (BC (p := x.q) (c := c) (k := k) x.q.num.sign rfl hk), pk (Aw 3 x.q.num.sign 0), pk (Aw 3 x.fst 0), pk (Aw 3 x.nxt 0), pk (Ae 3 x.kind 1), pk (An 3 x.kind 2), pa, pk (Ae 3 x.cost 0)]
         ·by_cases k3 : x.kind = 3
          ·by_cases hz : x.node = 0
           ·rw [show AP x = true by unfold AP; simp [h1, h2, h3, h4, hq, hf, hn, k1, k2, k3, hz] <;> decide]
            exact sr 76 [po (Ar x.node true h1), pa, po (Ar x.fst true h2), pa, po (Ar x.nxt true h3), pa, pk (AF 3 x.cost (-288230376151711744)), pk (Av 3 x.cost 288230376151711744), po (BC (p := x.q) (c := c) (k := k) x.q.num.sign rfl hk), pk (Aw 3 x.q.num.sign 0), pk (Aw 3 x.fst 0), pk (Aw 3 x.nxt 0), pk (Ae 3 x.kind 1), pk (Ae 3 x.kind 2), pk (An 3 x.kind 3), pa, pa, pk (An 3 x.node 0)]
           ·rw [show AP x = false by unfold AP; simp [h1, h2, h3, h4, hq, hf, hn, k1, k2, k3, hz] <;> decide]
            exact sr 76 [po (Ar x.node true h1), pa, po (Ar x.fst true h2), pa, po (Ar x.nxt true h3), pa, pk (AF 3 x.cost (-288230376151711744)), pk (Av 3 x.cost 288230376151711744), po (BC (p := x.q) (c := c) (k := k) x.q.num.sign rfl hk), pk (Aw 3 x.q.num.sign 0), pk (Aw 3 x.fst 0), pk (Aw 3 x.nxt 0), pk (Ae 3 x.kind 1), pk (Ae 3 x.kind 2), pk (An 3 x.kind 3), pa, pa, pk (Ae 3 x.node 0)]
          ·rw [show AP x = false by unfold AP; simp [h1, h2, h3, h4, hq, hf, hn, k1, k2, k3] <;> decide]
           exact sr 76 [po (Ar x.node true h1), pa, po (Ar x.fst true h2), pa, po (Ar x.nxt true h3), pa, pk (AF 3 x.cost (-288230376151711744)), pk (Av 3 x.cost 288230376151711744), po (BC (p := x.q) (c := c) (k := k) x.q.num.sign rfl hk), pk (Aw 3 x.q.num.sign 0), pk (Aw 3 x.fst 0), pk (Aw 3 x.nxt 0), pk (Ae 3 x.kind 1), pk (Ae 3 x.kind 2), pk (Ae 3 x.kind 3)]
       ·by_cases k1 : x.kind = 1
        ·rw [show AP x = false by unfold AP; simp [h1, h2, h3, h4, hq, hf, hn, k1] <;> decide]
         exact sr 76 [po (Ar x.node true h1), pa, po (Ar x.fst true h2), pa, po (Ar x.nxt true h3), pa, pk (AF 3 x.cost (-288230376151711744)), pk (Av 3 x.cost 288230376151711744), po (BC (p := x.q) (c := c) (k := k) x.q.num.sign rfl hk), pk (Aw 3 x.q.num.sign 0), pk (Aw 3 x.fst 0), pk (AG 3 x.nxt 0), pk (An 3 x.kind 1), pa]
        ·by_cases k2 : x.kind = 2
         ·by_cases hz : x.cost = 0
          ·rw [show AP x = true by unfold AP; simp [h1, h2, h3, h4, hq, hf, hn, k1, k2, hz] <;> decide]
           exact sr 76 [po (Ar x.node true h1), pa, po (Ar x.fst true h2), pa, po (Ar x.nxt true h3), pa, pk (AF 3 x.cost (-288230376151711744)), pk (Av 3 x.cost 288230376151711744), po (BC (p := x.q) (c := c) (k := k) x.q.num.sign rfl hk), pk (Aw 3 x.q.num.sign 0), pk (Aw 3 x.fst 0), pk (AG 3 x.nxt 0), pk (Ae 3 x.kind 1), pk (An 3 x.kind 2), pa, pk (An 3 x.cost 0)]
          ·rw [show AP x = false by unfold AP; simp [h1, h2, h3, h4, hq, hf, hn, k1, k2, hz] <;> decide]
           exact sr 76 [po (Ar x.node true h1), pa, po (Ar x.fst true h2), pa, po (Ar x.nxt true h3), pa, pk (AF 3 x.cost (-288230376151711744)), pk (Av 3 x.cost 288230376151711744), po (BC (p := x.q) (c := c) (k := k) x.q.num.sign rfl hk), pk (Aw 3 x.q.num.sign 0), pk (Aw 3 x.fst 0), pk (AG 3 x.nxt 0), pk (Ae 3 x.kind 1), pk (An 3 x.kind 2), pa, pk (Ae 3 x.cost 0)]
         ·by_cases k3 : x.kind = 3
          ·rw [show AP x = false by unfold AP; simp [h1, h2, h3, h4, hq, hf, hn, k1, k2, k3] <;> decide]
           exact sr 76 [po (Ar x.node true h1), pa, po (Ar x.fst true h2), pa, po (Ar x.nxt true h3), pa, pk (AF 3 x.cost (-288230376151711744)), pk (Av 3 x.cost 288230376151711744), po (BC (p := x.q) (c := c) (k := k) x.q.num.sign rfl hk), pk (Aw 3 x.q.num.sign 0), pk (Aw 3 x.fst 0), pk (AG 3 x.nxt 0), pk (Ae 3 x.kind 1), pk (Ae 3 x.kind 2), pk (An 3 x.kind 3), pa, pa]
          ·rw [show AP x = false by unfold AP; simp [h1, h2, h3, h4, hq, hf, hn, k1, k2, k3] <;> decide]
           exact sr 76 [po (Ar x.node true h1), pa, po (Ar x.fst true h2), pa, po (Ar x.nxt true h3), pa, pk (AF 3 x.cost (-288230376151711744)), pk (Av 3 x.cost 288230376151711744), po (BC (p := x.q) (c := c) (k := k) x.q.num.sign rfl hk), pk (Aw 3 x.q.num.sign 0), pk (Aw 3 x.fst 0), pk (AG 3 x.nxt 0), pk (Ae 3 x.kind 1), pk (Ae 3 x.kind 2), pk (Ae 3 x.kind 3)]
      ·by_cases k1 : x.kind = 1
       ·rw [show AP x = false by unfold AP; simp [h1, h2, h3, h4, hq, hf, k1] <;> decide]
        exact sr 76 [po (Ar x.node true h1), pa, po (Ar x.fst true h2), pa, po (Ar x.nxt true h3), pa, pk (AF 3 x.cost (-288230376151711744)), pk (Av 3 x.cost 288230376151711744), po (BC (p := x.q) (c := c) (k := k) x.q.num.sign rfl hk), pk (Aw 3 x.q.num.sign 0), pk (AG 3 x.fst 0), pk (An 3 x.kind 1), pa]
       ·by_cases k2 : x.kind = 2
        ·by_cases hz : x.cost = 0
         ·rw [show AP x = true by unfold AP; simp [h1, h2, h3, h4, hq, hf, k1, k2, hz] <;> decide]
          exact sr 76 [po (Ar x.node true h1), pa, po (Ar x.fst true h2), pa, po (Ar x.nxt true h3), pa, pk (AF 3 x.cost (-288230376151711744)), pk (Av 3 x.cost 288230376151711744), po (BC (p := x.q) (c := c) (k := k) x.q.num.sign rfl hk), pk (Aw 3 x.q.num.sign 0), pk (AG 3 x.fst 0), pk (Ae 3 x.kind 1), pk (An 3 x.kind 2), pa, pk (An 3 x.cost 0)]
         ·rw [show AP x = false by unfold AP; simp [h1, h2, h3, h4, hq, hf, k1, k2, hz] <;> decide]
          exact sr 76 [po (Ar x.node true h1), pa, po (Ar x.fst true h2), pa, po (Ar x.nxt true h3), pa, pk (AF 3 x.cost (-288230376151711744)), pk (Av 3 x.cost 288230376151711744), po (BC (p := x.q) (c := c) (k := k) x.q.num.sign rfl hk), pk (Aw 3 x.q.num.sign 0), pk (AG 3 x.fst 0), pk (Ae 3 x.kind 1), pk (An 3 x.kind 2), pa, pk (Ae 3 x.cost 0)]
        ·by_cases k3 : x.kind = 3
         ·rw [show AP x = false by unfold AP; simp [h1, h2, h3, h4, hq, hf, k1, k2, k3] <;> decide]
          exact sr 76 [po (Ar x.node true h1), pa, po (Ar x.fst true h2), pa, po (Ar x.nxt true h3), pa, pk (AF 3 x.cost (-288230376151711744)), pk (Av 3 x.cost 288230376151711744), po (BC (p := x.q) (c := c) (k := k) x.q.num.sign rfl hk), pk (Aw 3 x.q.num.sign 0), pk (AG 3 x.fst 0), pk (Ae 3 x.kind 1), pk (Ae 3 x.kind 2), pk (An 3 x.kind 3), pa, pa]
         ·rw [show AP x = false by unfold AP; simp [h1, h2, h3, h4, hq, hf, k1, k2, k3] <;> decide]
          exact sr 76 [po (Ar x.node true h1), pa, po (Ar x.fst true h2), pa, po (Ar x.nxt true h3), pa, pk (AF 3 x.cost (-288230376151711744)), pk (Av 3 x.cost 288230376151711744), po (BC (p := x.q) (c := c) (k := k) x.q.num.sign rfl hk), pk (Aw 3 x.q.num.sign 0), pk (AG 3 x.fst 0), pk (Ae 3 x.kind 1), pk (Ae 3 x.kind 2), pk (Ae 3 x.kind 3)]
     ·by_cases hf : x.fst = 0
      ·by_cases hn : x.nxt = 0
       ·by_cases k1 : x.kind = 1
        ·by_cases hz : x.cost = 0
         ·rw [show AP x = true by unfold AP; simp [h1, h2, h3, h4, hq, hf, hn, k1, hz] <;> decide]
          exact sr 76 [po (Ar x.node true h1), pa, po (Ar x.fst true h2), pa, po (Ar x.nxt true h3), pa, pk (AF 3 x.cost (-288230376151711744)), pk (Av 3 x.cost 288230376151711744), po (BC (p := x.q) (c := c) (k := k) x.q.num.sign rfl hk), pk (AG 3 x.q.num.sign 0), pk (Aw 3 x.fst 0), pk (Aw 3 x.nxt 0), pk (An 3 x.kind 1), pa, pk (An 3 x.cost 0)]
         ·rw [show AP x = false by unfold AP; simp [h1, h2, h3, h4, hq, hf, hn, k1, hz] <;> decide]
          exact sr 76 [po (Ar x.node true h1), pa, po (Ar x.fst true h2), pa, po (Ar x.nxt true h3), pa, pk (AF 3 x.cost (-288230376151711744)), pk (Av 3 x.cost 288230376151711744), po (BC (p := x.q) (c := c) (k := k) x.q.num.sign rfl hk), pk (AG 3 x.q.num.sign 0), pk (Aw 3 x.fst 0), pk (Aw 3 x.nxt 0), pk (An 3 x.kind 1), pa, pk (Ae 3 x.cost 0)]
        ·by_cases k2 : x.kind = 2
         ·rw [show AP x = false by unfold AP; simp [h1, h2, h3, h4, hq, hf, hn, k1, k2] <;> decide]
          exact sr 76 [po (Ar x.node true h1), pa, po (Ar x.fst true h2), pa, po (Ar x.nxt true h3), pa, pk (AF 3 x.cost (-288230376151711744)), pk (Av 3 x.cost 288230376151711744), po (BC (p := x.q) (c := c) (k := k) x.q.num.sign rfl hk), pk (AG 3 x.q.num.sign 0), pk (Aw 3 x.fst 0), pk (Aw 3 x.nxt 0), pk (Ae 3 x.kind 1), pk (An 3 x.kind 2), pa]
         ·by_cases k3 : x.kind = 3
          ·rw [show AP x = false by unfold AP; simp [h1, h2, h3, h4, hq, hf, hn, k1, k2, k3] <;> decide]
           exact sr 76 [po (Ar x.node true h1), pa, po (Ar x.fst true h2), pa, po (Ar x.nxt true h3), pa, pk (AF 3 x.cost (-288230376151711744)), pk (Av 3 x.cost 288230376151711744), po (BC (p := x.q) (c := c) (k := k) x.q.num.sign rfl hk), pk (AG 3 x.q.num.sign 0), pk (Aw 3 x.fst 0), pk (Aw 3 x.nxt 0), pk (Ae 3 x.kind 1), pk (Ae 3 x.kind 2), pk (An 3 x.kind 3), pa]
          ·rw [show AP x = false by unfold AP; simp [h1, h2, h3, h4, hq, hf, hn, k1, k2, k3] <;> decide]
           exact sr 76 [po (Ar x.node true h1), pa, po (Ar x.fst true h2), pa, po (Ar x.nxt true h3), pa, pk (AF 3 x.cost (-288230376151711744)), pk (Av 3 x.cost 288230376151711744), po (BC (p := x.q) (c := c) (k := k) x.q.num.sign rfl hk), pk (AG 3 x.q.num.sign 0), pk (Aw 3 x.fst 0), pk (Aw 3 x.nxt 0), pk (Ae 3 x.kind 1), pk (Ae 3 x.kind 2), pk (Ae 3 x.kind 3)]
       ·by_cases k1 : x.kind = 1
        ·rw [show AP x = false by unfold AP; simp [h1, h2, h3, h4, hq, hf, hn, k1] <;> decide]
         exact sr 76 [po (Ar x.node true h1), pa, po (Ar x.fst true h2), pa, po (Ar x.nxt true h3), pa, pk (AF 3 x.cost (-288230376151711744)), pk (Av 3 x.cost 288230376151711744), po (BC (p := x.q) (c := c) (k := k) x.q.num.sign rfl hk), pk (AG 3 x.q.num.sign 0), pk (Aw 3 x.fst 0), pk (AG 3 x.nxt 0), pk (An 3 x.kind 1), pa]
        ·by_cases k2 : x.kind = 2
         ·rw [show AP x = false by unfold AP; simp [h1, h2, h3, h4, hq, hf, hn, k1, k2] <;> decide]
          exact sr 76 [po (Ar x.node true h1), pa, po (Ar x.fst true h2), pa, po (Ar x.nxt true h3), pa, pk (AF 3 x.cost (-288230376151711744)), pk (Av 3 x.cost 288230376151711744), po (BC (p := x.q) (c := c) (k := k) x.q.num.sign rfl hk), pk (AG 3 x.q.num.sign 0), pk (Aw 3 x.fst 0), pk (AG 3 x.nxt 0), pk (Ae 3 x.kind 1), pk (An 3 x.kind 2), pa]
         ·by_cases k3 : x.kind = 3
          ·rw [show AP x = false by unfold AP; simp [h1, h2, h3, h4, hq, hf, hn, k1, k2, k3] <;> decide]
           exact sr 76 [po (Ar x.node true h1), pa, po (Ar x.fst true h2), pa, po (Ar x.nxt true h3), pa, pk (AF 3 x.cost (-288230376151711744)), pk (Av 3 x.cost 288230376151711744), po (BC (p := x.q) (c := c) (k := k) x.q.num.sign rfl hk), pk (AG 3 x.q.num.sign 0), pk (Aw 3 x.fst 0), pk (AG 3 x.nxt 0), pk (Ae 3 x.kind 1), pk (Ae 3 x.kind 2), pk (An 3 x.kind 3), pa]
          ·rw [show AP x = false by unfold AP; simp [h1, h2, h3, h4, hq, hf, hn, k1, k2, k3] <;> decide]
           exact sr 76 [po (Ar x.node true h1), pa, po (Ar x.fst true h2), pa, po (Ar x.nxt true h3), pa, pk (AF 3 x.cost (-288230376151711744)), pk (Av 3 x.cost 288230376151711744), po (BC (p := x.q) (c := c) (k := k) x.q.num.sign rfl hk), pk (AG 3 x.q.num.sign 0), pk (Aw 3 x.fst 0), pk (AG 3 x.nxt 0), pk (Ae 3 x.kind 1), pk (Ae 3 x.kind 2), pk (Ae 3 x.kind 3)]
      ·by_cases k1 : x.kind = 1
       ·rw [show AP x = false by unfold AP; simp [h1, h2, h3, h4, hq, hf, k1] <;> decide]
        exact sr 76 [po (Ar x.node true h1), pa, po (Ar x.fst true h2), pa, po (Ar x.nxt true h3), pa, pk (AF 3 x.cost (-288230376151711744)), pk (Av 3 x.cost 288230376151711744), po (BC (p := x.q) (c := c) (k := k) x.q.num.sign rfl hk), pk (AG 3 x.q.num.sign 0), pk (AG 3 x.fst 0), pk (An 3 x.kind 1), pa]
       ·by_cases k2 : x.kind = 2
        ·rw [show AP x = false by unfold AP; simp [h1, h2, h3, h4, hq, hf, k1, k2] <;> decide]
         exact sr 76 [po (Ar x.node true h1), pa, po (Ar x.fst true h2), pa, po (Ar x.nxt true h3), pa, pk (AF 3 x.cost (-288230376151711744)), pk (Av 3 x.cost 288230376151711744), po (BC (p := x.q) (c := c) (k := k) x.q.num.sign rfl hk), pk (AG 3 x.q.num.sign 0), pk (AG 3 x.fst 0), pk (Ae 3 x.kind 1), pk (An 3 x.kind 2), pa]
        ·by_cases k3 : x.kind = 3
         ·rw [show AP x = false by unfold AP; simp [h1, h2, h3, h4, hq, hf, k1, k2, k3] <;> decide]
          exact sr 76 [po (Ar x.node true h1), pa, po (Ar x.fst true h2), pa, po (Ar x.nxt true h3), pa, pk (AF 3 x.cost (-288230376151711744)), pk (Av 3 x.cost 288230376151711744), po (BC (p := x.q) (c := c) (k := k) x.q.num.sign rfl hk), pk (AG 3 x.q.num.sign 0), pk (AG 3 x.fst 0), pk (Ae 3 x.kind 1), pk (Ae 3 x.kind 2), pk (An 3 x.kind 3), pa]
         ·rw [show AP x = false by unfold AP; simp [h1, h2, h3, h4, hq, hf, k1, k2, k3] <;> decide]
          exact sr 76 [po (Ar x.node true h1), pa, po (Ar x.fst true h2), pa, po (Ar x.nxt true h3), pa, pk (AF 3 x.cost (-288230376151711744)), pk (Av 3 x.cost 288230376151711744), po (BC (p := x.q) (c := c) (k := k) x.q.num.sign rfl hk), pk (AG 3 x.q.num.sign 0), pk (AG 3 x.fst 0), pk (Ae 3 x.kind 1), pk (Ae 3 x.kind 2), pk (Ae 3 x.kind 3)]
theorem XL (q : Rat) (hk : k ≤ 1000) : Sp Tryz.prog CQ 37 [fc c k q] (tS (Bl q)) := Qd (fun n d a e => by subst e; exact Wq a hk) (by omega)
theorem WN {n : Nat} {q : Rat} (hn : n ≤ 1099511627776) (hw : Sp Tryz.prog CQ 35 [chK c k ⟨1, (n : Int), q, 0, 0, 0⟩] (lb true)) (s : List Nat) (hs8 : B8 s) (hf : Sp Tryz.prog CQ 37 [fc c k q] (tS s)) : (s.length ≤ 400 → Sp Tryz.prog CQ 13 [chK c k ⟨1, (n : Int), q, 0, 0, 0⟩] (.tu [.t (bI (Aa 1 ++ (Aa n) ++ (Aa s.length ++ s))), ci 0])) ∧ (400 < s.length → Sp Tryz.prog CQ 13 [chK c k ⟨1, (n : Int), q, 0, 0, 0⟩] (.tu [.one (.z), ci 10])) := by
 have hn' : n ≤ 4611686018427387904 := by omega
 have h1 := At (n := 1) (by omega)
 have h2 := At hn';constructor
 ·intro hl
  exact sr 44 [po (hw), pa, pom [6] (FI 1 (by omega)), pom [6, 9] (D2 (Aa 1) (by first | omega | (simp; omega)) n hn'), pa, po (hf), pk (AI 9 3 s), pk (Av 3 (s.length : Int) 400), pom [6, 12] (Q5 (Aa 1 ++ (Aa n)) (by simp; omega) hs8 (by omega)), ⟨.part ([.sl 25, .i 0]) 0 1 [.sl 25], rfl⟩, ⟨.part ([.sl 25, .i 0]) 1 1 [.i 0], rfl⟩, pm (AY (I := CQ) (t := 2) (k := 25) (E := [(0, .cv (.ag [.i 1, .i (n : Int), .b (.it (fF c k q)), .i 0, .i 0, .i 0])), (1, .p 0 0), (3, .i 0), (6, .cv (.ag [.i 1, .i (n : Int), .b (.it (fF c k q)), .i 0, .i 0, .i 0])), (7, .o true), (8, .o false), (4, .p 6 0), (9, .p 0 0), (10, .i 1), (11, .tu []), (12, .p 0 1), (13, .i (n : Int)), (14, .tu []), (15, .p 0 0), (16, .i 1), (18, .o true), (17, .o true), (19, .p 0 2), (20, .cv (.ag [.b (.it (fF c k q))])), (21, .cv (.one (.b (.lit (.string (Au s)))))), (5, .cv (.one (.b (.lit (.string (Au s)))))), (22, .cv (.one (.b (.lit (.string (Au s)))))), (23, .i (s.length : Int)), (24, .o false), (25, .cv (.one (.b (.lit (.string (Au s)))))), (26, .tu []), (40, .p 6 0), (41, .s 25), (42, .p 6 1), (43, .i 0)]) (B := [(0, some ⟨28, none, [.i 1, .i (n : Int), .b (.it (fF c k q)), .i 0, .i 0, .i 0]⟩), (6, some ⟨67, none, [.sl 25, .i 0]⟩)]) (nx := 32) (T := 5) (sz := 1) (n := ((Aa 1 ++ (Aa n) ++ (Aa s.length ++ s)).length)) ((Aa 1 ++ (Aa n) ++ (Aa s.length ++ s)).map Ad) rfl (by simp) AU rfl)]
 ·intro hl
  exact sr 44 [po (hw), pa, pom [6] (FI 1 (by omega)), pom [6, 9] (D2 (Aa 1) (by first | omega | (simp; omega)) n hn'), pa, po (hf), pk (AI 9 3 s), pk (Dd 3 (s.length : Int) 400)]
theorem WM {n a b : Nat} {q : Rat} (hn : n ≤ 1099511627776) (ha : a ≤ 1099511627776) (hb : b ≤ 1099511627776) (hw : Sp Tryz.prog CQ 35 [chK c k ⟨2, (n : Int), q, (a : Int), (b : Int), 0⟩] (lb true)) : Sp Tryz.prog CQ 13 [chK c k ⟨2, (n : Int), q, (a : Int), (b : Int), 0⟩] (.tu [.t (bI (Aa 2 ++ (Aa n) ++ (Aa a) ++ (Aa b))), ci 0]) := by
 have hn' : n ≤ 4611686018427387904 := by omega
 have ha' : a ≤ 4611686018427387904 := by omega
 have hb' : b ≤ 4611686018427387904 := by omega
 have h1 := At (n := 2) (by omega)
 have h2 := At hn';have h3 := At ha';exact sr 44 [po (hw), pa, pom [6] (FI 2 (by omega)), pom [6, 9] (D2 (Aa 2) (by first | omega | (simp; omega)) n hn'), pa, pa, pom [6, 12] (D2 (Aa 2 ++ (Aa n)) (by first | omega | (simp; omega)) a ha'), pom [6, 21] (D2 (Aa 2 ++ (Aa n) ++ (Aa a)) (by first | omega | (simp; omega)) b hb'), ⟨.part ([.sl 24, .i 0]) 0 1 [.sl 24], rfl⟩, ⟨.part ([.sl 24, .i 0]) 1 1 [.i 0], rfl⟩, pm (AY (I := CQ) (t := 2) (k := 24) (E := [(0, .cv (.ag [.i 2, .i (n : Int), .b (.it (fF c k q)), .i (a : Int), .i (b : Int), .i 0])), (1, .p 0 0), (3, .i 0), (6, .cv (.ag [.i 2, .i (n : Int), .b (.it (fF c k q)), .i (a : Int), .i (b : Int), .i 0])), (7, .o true), (8, .o false), (4, .p 6 0), (9, .p 0 0), (10, .i 2), (11, .tu []), (12, .p 0 1), (13, .i (n : Int)), (14, .tu []), (15, .p 0 0), (16, .i 2), (18, .o false), (17, .o false), (28, .o true), (27, .o true), (29, .p 0 6), (30, .i (a : Int)), (31, .tu []), (32, .p 0 7), (33, .i (b : Int)), (34, .tu []), (40, .p 6 0), (41, .s 24), (42, .p 6 1), (43, .i 0)]) (B := [(0, some ⟨28, none, [.i 2, .i (n : Int), .b (.it (fF c k q)), .i (a : Int), .i (b : Int), .i 0]⟩), (6, some ⟨67, none, [.sl 24, .i 0]⟩)]) (nx := 31) (T := 5) (sz := 1) (n := ((Aa 2 ++ (Aa n) ++ (Aa a) ++ (Aa b)).length)) ((Aa 2 ++ (Aa n) ++ (Aa a) ++ (Aa b)).map Ad) rfl (by simp) AU rfl)]
theorem WL {n : Nat} {z : Int} {q : Rat} (hn : n ≤ 1099511627776) (hz : CN z = true) (hw : Sp Tryz.prog CQ 35 [chK c k ⟨3, (n : Int), q, 0, 0, z⟩] (lb true)) : Sp Tryz.prog CQ 13 [chK c k ⟨3, (n : Int), q, 0, 0, z⟩] (.tu [.t (bI (Aa 3 ++ (Aa n) ++ (Aa (zig z)))), ci 0]) := by
 have hn' : n ≤ 4611686018427387904 := by omega
 have h1 := At (n := 3) (by omega)
 have h2 := At hn';exact sr 44 [po (hw), pa, pom [6] (FI 3 (by omega)), pom [6, 9] (D2 (Aa 3) (by first | omega | (simp; omega)) n hn'), pa, pa, pa, pom [6, 12] (RK (Aa 3 ++ (Aa n)) (by simp; omega) z hz), ⟨.part ([.sl 23, .i 0]) 0 1 [.sl 23], rfl⟩, ⟨.part ([.sl 23, .i 0]) 1 1 [.i 0], rfl⟩, pm (AY (I := CQ) (t := 2) (k := 23) (E := [(0, .cv (.ag [.i 3, .i (n : Int), .b (.it (fF c k q)), .i 0, .i 0, .i z])), (1, .p 0 0), (3, .i 0), (6, .cv (.ag [.i 3, .i (n : Int), .b (.it (fF c k q)), .i 0, .i 0, .i z])), (7, .o true), (8, .o false), (4, .p 6 0), (9, .p 0 0), (10, .i 3), (11, .tu []), (12, .p 0 1), (13, .i (n : Int)), (14, .tu []), (15, .p 0 0), (16, .i 3), (18, .o false), (17, .o false), (28, .o false), (27, .o false), (36, .o true), (35, .o true), (37, .p 0 8), (38, .i z), (39, .tu []), (40, .p 6 0), (41, .s 23), (42, .p 6 1), (43, .i 0)]) (B := [(0, some ⟨28, none, [.i 3, .i (n : Int), .b (.it (fF c k q)), .i 0, .i 0, .i z]⟩), (6, some ⟨67, none, [.sl 23, .i 0]⟩)]) (nx := 30) (T := 5) (sz := 1) (n := ((Aa 3 ++ (Aa n) ++ (Aa (zig z))).length)) ((Aa 3 ++ (Aa n) ++ (Aa (zig z))).map Ad) rfl (by simp) AU rfl)]
theorem WO (x : Ch) (hw : Sp Tryz.prog CQ 35 [chK c k x] (lb false)) : Sp Tryz.prog CQ 13 [chK c k x] (.tu [.one (.z), ci 5]) :=
 sr 44 [po (hw), pa]
theorem ST {f : FuncId} {args : List CT} {e : Int} (h : Sp Tryz.prog I f args (.tu [.one (.z), ci e])) : Sp Tryz.prog I f args (.tu [.t (bI []), ci e]) := h.rs (MU ⟨XLe.one K5, CTle.refl, trivial⟩)
theorem JU {x : Ch} (h : AP x = true) : ∃ n : Nat, n ≤ 1099511627776 ∧ x.node = (n : Int) ∧ ((x.kind = 1 ∧ x.fst = 0 ∧ x.nxt = 0 ∧ x.cost = 0) ∨ (x.kind = 2 ∧ x.q.num.sign = 0 ∧ x.cost = 0 ∧ ∃ a b : Nat, a ≤ 1099511627776 ∧ b ≤ 1099511627776 ∧ x.fst = (a : Int) ∧ x.nxt = (b : Int)) ∨ (x.kind = 3 ∧ x.q.num.sign = 0 ∧ x.fst = 0 ∧ x.nxt = 0 ∧ n = 0 ∧ CN x.cost = true)) := by
 unfold AP at h;simp only [Bool.and_eq_true] at h;obtain ⟨⟨⟨⟨h1, h2⟩, h3⟩, h4⟩, h5⟩ := h;have g1 := M0 h1;have g2 := M0 h2;have g3 := M0 h3;refine ⟨x.node.toNat, by omega, by omega, ?_⟩
 by_cases k1 : x.kind = 1
 ·rw [if_pos k1] at h5
  simp at h5;exact .inl ⟨k1, h5.1.1, h5.1.2, h5.2⟩
 ·rw [if_neg k1] at h5
  by_cases k2 : x.kind = 2
  ·rw [if_pos k2] at h5
   simp at h5;exact .inr (.inl ⟨k2, by rw [h5.1]; rfl, h5.2, x.fst.toNat, x.nxt.toNat, by omega, by omega, by omega, by omega⟩)
  ·rw [if_neg k2] at h5
   by_cases k3 : x.kind = 3
   ·rw [if_pos k3] at h5
    simp at h5;exact .inr (.inr ⟨k3, by rw [h5.1.1.1]; rfl, h5.1.1.2, h5.1.2, by omega, h4⟩)
   ·rw [if_neg k3] at h5; cases h5
theorem Tt (x : Ch) (hk : k ≤ 1000) : Sp Tryz.prog CQ 13 [chK c k x] (.tu [.t (bI (AT x).1), ci (AT x).2]) := by
 have hw := XG (I := CQ) (c := c) (k := k) x (by omega)
 unfold AT;cases hb : AP x with
 | false =>
  rw [hb] at hw;rw [if_pos rfl];exact ST (WO x hw)
 | true =>
  rw [hb] at hw;rw [if_neg (by decide)]
  obtain ⟨n, hn, e1, h⟩ := JU hb;obtain ⟨kind, node, q, fst, nxt, cost⟩ := x;simp only at e1 h;subst e1;rcases h with ⟨rfl, rfl, rfl, rfl⟩ | ⟨rfl, hs, rfl, a, b, ha, hb', rfl, rfl⟩ | ⟨rfl, hs, rfl, rfl, rfl, hz⟩
  ·obtain ⟨p1, p2⟩ := WN hn hw (Bl q) (GZ q) (XL q hk)
   by_cases hl : 400 < (Bl q).length
   ·rw [if_pos ⟨rfl, hl⟩]
    exact ST (p2 hl)
   ·rw [if_neg (fun h => hl h.2)]
    exact p1 (by omega)
  ·rw [if_neg (fun h => by cases h.1)]
   have := WM hn ha hb' hw;rw [List.append_assoc] at this;exact this
  ·rw [if_neg (fun h => by cases h.1)]
   exact WL hn hz hw
end
def QY (l : List Nat) (i : Nat) : Int := if 48 ≤ l.getD i 0 ∧ l.getD i 0 ≤ 57 then 0 else 1
theorem PV {l : List Nat} : Gr (QY l) l.length 0 = 0 ↔ okD l := by
 constructor
 ·intro h
  refine My fun k hk => ?_
  have := EX.1 h k (Nat.zero_le _) (by omega)
  unfold QY at this;split at this
  ·assumption
  ·omega
 ·intro h
  refine EX.2 fun k _ hk => ?_
  unfold QY;rw [if_pos (h.getD (by omega))]
theorem b0 : B8 [] := fun x hx => by cases hx
theorem GT {l : List Nat} (h : B8 l) : B8 (AK l) := by unfold AK; split; exact h.drop 1; exact h
theorem Ct (l : List Nat) : (AK l).length ≤ l.length := by unfold AK; split <;> simp
section
variable {I : WInv}
def QX (part : List Nat) (neg : Bool) (z i : Int) : Go.Proofs.YtdgbealknnmkoaaGreatDoor.St := ⟨[(1, .cv (.one (.b (.lit (.string (Au part)))))), (4, .p 0 0), (6, .o neg), (7, .p 11 0), (36, .i ((part.length : Nat) : Int)), (37, .i i)], [(0, some ⟨26, none, [.o false, .z, .o false, .z]⟩), (11, some ⟨24, none, [.b (.it (IP (cP z)))]⟩)], 50⟩
theorem Mw (part : List Nat) (neg : Bool) (z : Int) (hpb : B8 part) (hl : part.length ≤ 1000) : (okD part → Cr Tryz.prog I 81 (CJ Tryz.prog 103 0) (QX part neg z ((0 : Nat) : Int)) (.exit 0) ⟨[(1, .cv (.one (.b (.lit (.string (Au part)))))), (4, .p 0 0), (6, .o neg), (7, .p 11 0)], [(0, some ⟨26, none, [.o false, .z, .o false, .z]⟩), (11, some ⟨24, none, [.b (.it (IP (cP z)))]⟩)], 50⟩) ∧ (¬ okD part → Cr Tryz.prog I 81 (CJ Tryz.prog 103 0) (QX part neg z ((0 : Nat) : Int)) .ret ⟨[(4, .p 0 0), (5, .i 1)], [(0, some ⟨26, none, [.o false, .z, .o false, .z]⟩)], 50⟩) := by
 have loop := Rj (P := Tryz.prog) (I := I) (nt := 81) (c := CJ Tryz.prog 103 0) (e := 0) (b0 := ⟨[(1, .cv (.one (.b (.lit (.string (Au part)))))), (4, .p 0 0), (6, .o neg), (7, .p 11 0)], [(0, some ⟨26, none, [.o false, .z, .o false, .z]⟩), (11, some ⟨24, none, [.b (.it (IP (cP z)))]⟩)], 50⟩) (QY part) part.length (fun i => QX part neg z (i : Int)) (fun _ => ⟨[(4, .p 0 0), (5, .i 1)], [(0, some ⟨26, none, [.o false, .z, .o false, .z]⟩)], 50⟩) (fun i hi hc => ?_) ?_ (fun i hi hc => ?_)
 ·exact ⟨fun h => loop.1 (PV.2 h), fun h => loop.2 fun h' => h (PV.1 h')⟩
 ·unfold QY at hc
  split at hc
  ·rename_i hh
   have h1 : decide (((part.getD i 0 : Nat) : Int) < 48) = false := decide_eq_false (by omega)
   have h2 : decide ((57 : Int) < ((part.getD i 0 : Nat) : Int)) = false := decide_eq_false (by omega)
   exact rr [pk (Ce 3 (i : Int) ((part.length : Nat) : Int)), pk (CE 9 part i _ rfl hi hpb), pk (P0 5 ((part.getD i 0 : Nat) : Int) 48 false h1), pk (CE 9 part i _ rfl hi hpb), pk (TY 5 ((part.getD i 0 : Nat) : Int) 57 false h2), pk (Bi 3 (i : Int) 1 ⟨by omega, by omega⟩)]
  ·omega
 ·exact rr [pk (AF 3 ((part.length : Nat) : Int) ((part.length : Nat) : Int))]
 ·unfold QY at hc
  split at hc
  ·omega
  ·by_cases hh : part.getD i 0 < 48
   ·have h1 : decide (((part.getD i 0 : Nat) : Int) < 48) = true := decide_eq_true (by omega)
    exact rr [pk (Ce 3 (i : Int) ((part.length : Nat) : Int)), pk (CE 9 part i _ rfl hi hpb), pk (P0 5 ((part.getD i 0 : Nat) : Int) 48 true h1)]
   ·have h1 : decide (((part.getD i 0 : Nat) : Int) < 48) = false := decide_eq_false (by omega)
    have h2 : decide ((57 : Int) < ((part.getD i 0 : Nat) : Int)) = true := decide_eq_true (by omega)
    exact rr [pk (Ce 3 (i : Int) ((part.length : Nat) : Int)), pk (CE 9 part i _ rfl hi hpb), pk (P0 5 ((part.getD i 0 : Nat) : Int) 48 false h1), pk (CE 9 part i _ rfl hi hpb), pk (TY 5 ((part.getD i 0 : Nat) : Int) 57 true h2)]
theorem Wv {whole part : List Nat} (hw : B8 whole) (hpb : B8 part) (hwl : whole.length ≤ 400) (hl : part.length ≤ 400) (h : ¬ (Gc (AK whole) ∧ part ≠ [] ∧ okD part)) : Sp Tryz.prog I 103 [cS whole, cS part] (.tu [frz, ci 1]) := by
 have hbl := Ct whole;have hh := Tj (I := I) hw;by_cases D : Gc (AK whole)
 ·have pp := BU (I := I) (GT hw) (FO D (by omega)) (by omega)
  have lz := CI D.2.1 (by omega)
  obtain ⟨z, hz⟩ : ∃ z : Int, ((nd (AK whole) : Nat) : Int) = z := ⟨_, rfl⟩;have hs : decide (z.sign < 0) = false := decide_eq_false fun hh => by have := Int.sign_neg_iff.1 hh; omega
  rw [hz] at pp lz;have sg := Bo (I := I) z.sign (AQ lz (by omega)) rfl
  generalize Bd whole = neg at *;by_cases h0 : part = []
  ·have h0' : part.length = 0 := by rw [h0]; rfl
   cases neg <;> exact sr 81 [po hh, po (Dv hw), po pp, po sg, pk (Fl 3 z.sign 0 false hs), pk (AI 9 3 part), pk (An 3 ((part.length : Nat) : Int) 0)]
  ·have h0' : part.length ≠ 0 := fun hh => h0 (List.eq_nil_of_length_eq_zero hh)
   cases neg
   ·have lo := (Mw (I := I) part false z hpb (by omega)).2 fun hh => h ⟨D, h0, hh⟩
    unfold QX at lo;exact sr 81 [po hh, po (Dv hw), po pp, po sg, pk (Fl 3 z.sign 0 false hs), pk (AI 9 3 part), pk (Ae 3 ((part.length : Nat) : Int) 0), pk (AI 9 3 part), pl lo]
   ·have lo := (Mw (I := I) part true z hpb (by omega)).2 fun hh => h ⟨D, h0, hh⟩
    unfold QX at lo;exact sr 81 [po hh, po (Dv hw), po pp, po sg, pk (Fl 3 z.sign 0 false hs), pk (AI 9 3 part), pk (Ae 3 ((part.length : Nat) : Int) 0), pk (AI 9 3 part), pl lo]
 ·by_cases G : Cs (Bd (AK whole)) (AK (AK whole))
  ·have pp := BU (I := I) (GT hw) (GS G (by omega)) (by omega)
   have lz : Lim 84 (sgn (Bd (AK whole)) (nd (AK (AK whole)))) := (CI G.1.2.1 (by have := Ct (AK whole); omega)).sgn _
   have hneg := NM G D;generalize sgn (Bd (AK whole)) (nd (AK (AK whole))) = z at *;have hs : decide (z.sign < 0) = true := decide_eq_true (Int.sign_neg_iff.2 hneg);have sg := Bo (I := I) z.sign (AQ lz (by omega)) rfl
   generalize Bd whole = neg at *;cases neg <;> exact sr 81 [po hh, po (Dv hw), po pp, po sg, pk (Fl 3 z.sign 0 true hs)]
  ·have pp := BU (I := I) (GT hw) (Mx G (by omega)) (by omega)
   generalize Bd whole = neg at *;cases neg <;> exact sr 81 [po hh, po (Dv hw), po pp]
theorem UF {whole part : List Nat} (hw : B8 whole) (hwl : whole.length + part.length ≤ 399) (D : Gc (AK whole)) (hp0 : part ≠ []) (hp : okD part) : Sp Tryz.prog I 103 [cS whole, cS part] (.tu [frc (Rat.divInt (sgn (Bd whole) (nd (AK whole ++ part))) ((10 ^ part.length : Nat) : Int)), ci 0]) := by
 have hbl := Ct whole;have hh := Tj (I := I) hw;have hpb := hp.b8;have hp0' : part.length ≠ 0 := fun hh => hp0 (List.eq_nil_of_length_eq_zero hh)
 have pp := BU (I := I) (GT hw) (FO D (by omega)) (by omega)
 have lz := CI D.2.1 (by omega)
 have lpt := CI hp (by omega)
 have lN := CI (D.2.1.app hp) (by rw [List.length_append]; omega)
 have eN : ((nd (AK whole ++ part) : Nat) : Int) = ((nd (AK whole) : Nat) : Int) * ((10 ^ part.length : Nat) : Int) + ((nd part : Nat) : Int) := by
  rw [HO, Int.natCast_add, Int.natCast_mul]
 obtain ⟨M, hM⟩ : ∃ M, nd (AK whole ++ part) = M := ⟨_, rfl⟩;rw [hM] at eN lN ⊢;obtain ⟨z, hz⟩ : ∃ z : Int, ((nd (AK whole) : Nat) : Int) = z := ⟨_, rfl⟩;have hs : decide (z.sign < 0) = false := decide_eq_false fun hh => by have := Int.sign_neg_iff.1 hh; omega
 rw [hz] at pp lz eN;have sg := Bo (I := I) z.sign (AQ lz (by omega)) rfl
 have hrb : B8 (part.dropWhile (· == 48)) := fun x hx => hpb x ((List.dropWhile_sublist _).subset hx)
 have hrl : (part.dropWhile (· == 48)).length ≤ part.length := (List.dropWhile_sublist _).length_le;have rp := Xt (I := I) part.length (by omega)
 have ps : Sp Tryz.prog I 101 [cS ([49] ++ List.replicate part.length 48)] (.tu [.ag (ic ((10 ^ part.length : Nat) : Int)), ci 0]) := by
  have := BU (I := I) (Oe part.length).2.1.b8 (FO (Oe part.length) (by simp; omega)) (by simp; omega)
  rw [Wz] at this;exact this
 have lt := P9 (k := part.length) (by omega)
 have tn := VX part.length;generalize ((10 ^ part.length : Nat) : Int) = t at *;have nt := AQ lt (by omega)
 have mu := SW (I := I) (AQ lz (by omega)) nt
 have lm := lz.mul lt;have lo0 := fun b => (Mw (I := I) part b z hpb (by omega)).1 hp
 unfold QX at lo0;have ng := Gx (I := I) (AQ lN (by omega))
 have r0 := D3 (I := I) (AQ lN (by omega)) nt (lN.mono (by omega)) (lt.mono (by omega)) tn
 have r1 := D3 (I := I) (AQ lN.neg (by omega)) nt (lN.neg.mono (by omega)) (lt.mono (by omega)) tn
 generalize Bd whole = neg at *;by_cases hr : part.dropWhile (· == 48) = []
 ·have e0 : nd part = 0 := by rw [← N4, hr]; rfl
  have ad := MM (I := I) (AQ lm (by omega)) Mz
  rw [show z * t + 0 = (M : Int) by rw [eN, e0]; simp] at ad
  cases neg
  ·have lo := lo0 false
   have re := r0;exact sr 81 [po hh, po (Dv hw), po pp, po sg, pk (Fl 3 z.sign 0 false hs), pk (AI 9 3 part), pk (Ae 3 ((part.length : Nat) : Int) 0), pk (AI 9 3 part), pl lo, po (JI hpb), pk (Hs 9 (part.dropWhile (· == 48)) [] false (decide_eq_true hr) hrb b0), pk (AI 9 3 part), po rp, pk (Fo 9 [49] (List.replicate part.length 48) (by simp; omega)), po ps, po mu, po ad, po re]
  ·have lo := lo0 true
   have re := r1;exact sr 81 [po hh, po (Dv hw), po pp, po sg, pk (Fl 3 z.sign 0 false hs), pk (AI 9 3 part), pk (Ae 3 ((part.length : Nat) : Int) 0), pk (AI 9 3 part), pl lo, po (JI hpb), pk (Hs 9 (part.dropWhile (· == 48)) [] false (decide_eq_true hr) hrb b0), pk (AI 9 3 part), po rp, pk (Fo 9 [49] (List.replicate part.length 48) (by simp; omega)), po ps, po mu, po ad, po ng, po re]
 ·have pr := BU (I := I) hrb (FO (Pp hp hr) (by omega)) (by omega)
  rw [N4] at pr;have ad := MM (I := I) (AQ lm (by omega)) (AQ lpt (by omega))
  rw [← eN] at ad;cases neg
  ·have lo := lo0 false
   have re := r0;exact sr 81 [po hh, po (Dv hw), po pp, po sg, pk (Fl 3 z.sign 0 false hs), pk (AI 9 3 part), pk (Ae 3 ((part.length : Nat) : Int) 0), pk (AI 9 3 part), pl lo, po (JI hpb), pk (Hs 9 (part.dropWhile (· == 48)) [] true (decide_eq_false hr) hrb b0), po pr, pk (AI 9 3 part), po rp, pk (Fo 9 [49] (List.replicate part.length 48) (by simp; omega)), po ps, po mu, po ad, po re]
  ·have lo := lo0 true
   have re := r1;exact sr 81 [po hh, po (Dv hw), po pp, po sg, pk (Fl 3 z.sign 0 false hs), pk (AI 9 3 part), pk (Ae 3 ((part.length : Nat) : Int) 0), pk (AI 9 3 part), pl lo, po (JI hpb), pk (Hs 9 (part.dropWhile (· == 48)) [] true (decide_eq_false hr) hrb b0), po pr, pk (AI 9 3 part), po rp, pk (Fo 9 [49] (List.replicate part.length 48) (by simp; omega)), po ps, po mu, po ad, po ng, po re]
theorem Nu {xs : List Nat} (h : 400 < xs.length) : Sp Tryz.prog I 49 [cS xs] (.tu [frz, ci 10]) :=
 sr 72 [pk (AI 9 3 xs), pk (Dd 3 ((xs.length : Nat) : Int) 400)]
theorem GQ {xs : List Nat} {i : Nat} (hx : B8 xs) (hl : xs.length ≤ 400) (hi : Cv 47 xs = some i) (G : Cs (Bd (xs.take i)) (AK (xs.take i))) (D : Gc (xs.drop (i + 1))) (h48 : xs.drop (i + 1) ≠ [48]) : Sp Tryz.prog Ai 49 [cS xs] (.tu [frc (Rat.divInt (sgn (Bd (xs.take i)) (nd (AK (xs.take i)))) ((nd (xs.drop (i + 1)) : Nat) : Int)), ci 0]) := by
 have cs := KT (c := 47) (by omega) hx (by omega) hi
 have l1 : (xs.take i).length ≤ 400 := by rw [List.length_take]; omega
 have l2 : (xs.drop (i + 1)).length ≤ 400 := by rw [List.length_drop]; omega
 have pn := BU (I := Ai) (hx.take i) (GS G l1) (by omega)
 have pdd := BU (I := Ai) (hx.drop (i + 1)) (FO D l2) (by omega)
 have ln : Lim 84 (sgn (Bd (xs.take i)) (nd (AK (xs.take i)))) := (CI G.1.2.1 (by have := Ct (xs.take i); omega)).sgn _
 have ld := CI D.2.1 (by omega)
 have hp := SV D h48;generalize sgn (Bd (xs.take i)) (nd (AK (xs.take i))) = n at *;obtain ⟨d, hd⟩ : ∃ d : Int, ((nd (xs.drop (i + 1)) : Nat) : Int) = d := ⟨_, rfl⟩;have hd0 : 0 < d := by omega
 rw [hd] at pdd ld ⊢;have sg := Bo (I := Ai) 1 (AQ ld (by omega)) (Int.sign_eq_one_of_pos hd0)
 have re := D3 (I := Ai) (AQ ln (by omega)) (AQ ld (by omega)) (ln.mono (by omega)) (ld.mono (by omega)) (by omega)
 exact sr 72 [pk (AI 9 3 xs), pk (Av 3 ((xs.length : Nat) : Int) 400), po cs, po pn, po pdd, po sg, po re]
theorem Nt {xs : List Nat} {i : Nat} (hx : B8 xs) (hl : xs.length ≤ 400) (hi : Cv 47 xs = some i) (h : ¬ (Cs (Bd (xs.take i)) (AK (xs.take i)) ∧ Gc (xs.drop (i + 1)) ∧ xs.drop (i + 1) ≠ [48])) : Sp Tryz.prog Ai 49 [cS xs] (.tu [frz, ci 1]) := by
 have cs := KT (c := 47) (by omega) hx (by omega) hi
 have l1 : (xs.take i).length ≤ 400 := by rw [List.length_take]; omega
 have l2 : (xs.drop (i + 1)).length ≤ 400 := by rw [List.length_drop]; omega
 by_cases G : Cs (Bd (xs.take i)) (AK (xs.take i))
 ·have pn := BU (I := Ai) (hx.take i) (GS G l1) (by omega)
  have le : ∀ d : Int, d ≤ 0 → d.sign ≤ 0 := fun d hd => by
   rcases Int.lt_or_eq_of_le hd with h1 | h1
   ·rw [Int.sign_eq_neg_one_of_neg h1]; omega
   ·rw [h1]; decide
  by_cases D : Gc (xs.drop (i + 1))
  ·have e48 : xs.drop (i + 1) = [48] := by
    by_cases h1 : xs.drop (i + 1) = [48]
    ·exact h1
    ·exact absurd ⟨G, D, h1⟩ h
   have pdd := BU (I := Ai) (hx.drop (i + 1)) (FO D l2) (by omega)
   rw [show ((nd (xs.drop (i + 1)) : Nat) : Int) = 0 by rw [e48]; rfl] at pdd
   have sg := Bo (I := Ai) 0 (AQ (F6 1) (by omega)) rfl
   exact sr 72 [pk (AI 9 3 xs), pk (Av 3 ((xs.length : Nat) : Int) 400), po cs, po pn, po pdd, po sg]
  ·by_cases G2 : Cs (Bd (xs.drop (i + 1))) (AK (xs.drop (i + 1)))
   ·have pdd := BU (I := Ai) (hx.drop (i + 1)) (GS G2 l2) (by omega)
    have ld : Lim 84 (sgn (Bd (xs.drop (i + 1))) (nd (AK (xs.drop (i + 1))))) := (CI G2.1.2.1 (by have := Ct (xs.drop (i + 1)); omega)).sgn _
    have hneg := NM G2 D;generalize sgn (Bd (xs.drop (i + 1))) (nd (AK (xs.drop (i + 1)))) = d at *;have sg := Bo (I := Ai) (-1) (AQ ld (by omega)) (Int.sign_eq_neg_one_of_neg hneg)
    exact sr 72 [pk (AI 9 3 xs), pk (Av 3 ((xs.length : Nat) : Int) 400), po cs, po pn, po pdd, po sg]
   ·have pdd := BU (I := Ai) (hx.drop (i + 1)) (Mx G2 l2) (by omega)
    exact sr 72 [pk (AI 9 3 xs), pk (Av 3 ((xs.length : Nat) : Int) 400), po cs, po pn, po pdd]
 ·have pn := BU (I := Ai) (hx.take i) (Mx G l1) (by omega)
  exact sr 72 [pk (AI 9 3 xs), pk (Av 3 ((xs.length : Nat) : Int) 400), po cs, po pn]
theorem Kx {xs : List Nat} {j : Nat} {r : CT} {code : Int} (hx : B8 xs) (hl : xs.length ≤ 400) (hi : Cv 47 xs = none) (hj : Cv 46 xs = some j) (hr : (∃ q : Rat, r = frc q) ∨ r = frz) (pdr : Sp Tryz.prog Ai 103 [cS (xs.take j), cS (xs.drop (j + 1))] (.tu [r, ci code])) : Sp Tryz.prog Ai 49 [cS xs] (.tu [r, ci code]) := by
 have c1 := FC (c := 47) (by omega) hx (by omega) hi
 have c2 := KT (c := 46) (by omega) hx (by omega) hj
 rcases hr with ⟨q, rfl⟩ | rfl
 ·exact sr 72 [pk (AI 9 3 xs), pk (Av 3 ((xs.length : Nat) : Int) 400), po c1, po c2, po pdr]
 ·exact sr 72 [pk (AI 9 3 xs), pk (Av 3 ((xs.length : Nat) : Int) 400), po c1, po c2, po pdr]
theorem Kw {xs : List Nat} (hx : B8 xs) (hl : xs.length ≤ 400) (hi : Cv 47 xs = none) (hj : Cv 46 xs = none) (G : Cs (Bd xs) (AK xs)) : Sp Tryz.prog Ai 49 [cS xs] (.tu [frc ((sgn (Bd xs) (nd (AK xs)) : Int) : Rat), ci 0]) := by
 have c1 := FC (c := 47) (by omega) hx (by omega) hi
 have c2 := FC (c := 46) (by omega) hx (by omega) hj
 have pn := BU (I := Ai) hx (GS G hl) (by omega)
 have ln : Lim 84 (sgn (Bd xs) (nd (AK xs))) := (CI G.1.2.1 (by have := Ct xs; omega)).sgn _
 generalize sgn (Bd xs) (nd (AK xs)) = n at *;have fi := Pc (I := Ai) (AQ ln (by omega))
 exact sr 72 [pk (AI 9 3 xs), pk (Av 3 ((xs.length : Nat) : Int) 400), po c1, po c2, po pn, po fi]
theorem Nv {xs : List Nat} (hx : B8 xs) (hl : xs.length ≤ 400) (hi : Cv 47 xs = none) (hj : Cv 46 xs = none) (G : ¬ Cs (Bd xs) (AK xs)) : Sp Tryz.prog Ai 49 [cS xs] (.tu [frz, ci 1]) := by
 have c1 := FC (c := 47) (by omega) hx (by omega) hi
 have c2 := FC (c := 46) (by omega) hx (by omega) hj
 have pn := BU (I := Ai) hx (Mx G hl) (by omega)
 exact sr 72 [pk (AI 9 3 xs), pk (Av 3 ((xs.length : Nat) : Int) 400), po c1, po c2, po pn]
end
section
variable {I : WInv}
theorem OH (q : Rat) (hl : (Bl q).length ≤ 400) : Sp Tryz.prog Ai 49 [cS (Bl q)] (.tu [frc q, ci 0]) := by
 have hx := GZ q;by_cases h : q.den = 1
 ·obtain ⟨h1, h2⟩ := LL q h
  have e : Bl q = BK q.num := by unfold Bl; rw [if_pos h]
  have hp := SN q.num (by rw [← e]; exact hl)
  rw [← e] at hp;rcases hp with hp | hp | hp
  ·omega
  ·obtain ⟨_, G, _, hz⟩ := hp
   have := Kw hx hl h1 h2 G;rw [← hz] at this;have e2 : ((q.num : Int) : Rat) = q := (UD q.num).symm.trans (by
    have := Bf q;rw [h] at this;exact this)
   rwa [e2] at this
  ·omega
 ·have hi := KI q h
  have e : Bl q = BK q.num ++ ([47] ++ BK (q.den : Int)) := by unfold Bl; rw [if_neg h]
  have et : (Bl q).take (BK q.num).length = BK q.num := by rw [e]; exact List.take_left
  have ed : (Bl q).drop ((BK q.num).length + 1) = dec q.den := by
   rw [e, ← List.drop_drop, List.drop_left, ← NS]
   rfl
  have hl2 := hl;rw [e, List.length_append] at hl2;have hp := SN q.num (by omega)
  rcases hp with hp | hp | hp
  ·omega
  ·obtain ⟨_, G, _, hz⟩ := hp
   have hd0 := TG q;have := GQ hx hl hi (by rw [et]; exact G) (by rw [ed]; exact KS q.den) (by
    rw [ed];intro h48;have h2 := Gy q.den;rw [h48] at h2;have h3 : nd [48] = 0 := rfl;omega)
   rw [et, ed, ← hz, Gy, Bf] at this;exact this
  ·omega
end
abbrev rbx (xs : List Nat) (b : Bool) : Ent := ⟨76, none, [.b (.it (bI xs)), .o b]⟩
def rst (xs : List Nat) (u e : Nat) : List Nat := if e = 0 then xs.drop u else []
def bdd (bad : Bool) (e : Nat) : Bool := bad || !decide (e = 0)
theorem Wi {xs : List Nat} (h : B8 xs) (u e : Nat) : B8 (rst xs u e) := by unfold rst; split; exact h.drop u; exact fun x hx => by cases hx
section
variable {I : WInv} {c : Bool} {k : Nat}
theorem O4 (xs : List Nat) (bad : Bool) (u e : Nat) (h : e = 0 → u ≤ xs.length) : SpM Tryz.prog I 97 [(0, some (rbx xs bad))] [.one (.ptr 0 0), ci (u : Int), ci (e : Int)] [(0, some (rbx (rst xs u e) (bdd bad e)))] (.tu []) := by
 unfold rst bdd;by_cases h0 : e = 0
 ·subst h0
  have hu := h rfl;rw [if_pos rfl, show (bad || !decide (0 = 0)) = bad by simp]
  exact sm 23 [pk (Aw 32 ((0 : Nat) : Int) 0), pk (Ay xs u _ rfl hu)]
 ·rw [if_neg h0, show (bad || !decide (e = 0)) = true by simp [h0]]
  exact sm 23 [pk (AG 32 (e : Int) 0), ⟨.upd [.b (.it (slI 1 ((xs).map (Ad)))), .o bad] 1 [.o true] [.b (.it (slI 1 ((xs).map (Ad)))), .o true], rfl⟩, ⟨.upd [.b (.it (slI 1 ((xs).map (Ad)))), .o true] 0 [.z] [.z, .o true], rfl⟩, pm ((show Leads I _ ⟨[], [(0, some ⟨76, none, [.z, .o true]⟩)], 13⟩ ⟨[], [(0, some (rbx [] true))], 13⟩ from Bj [] trivial ⟨rfl, rfl, rfl, ILe.cons K5 ILe.refl, trivial⟩))]
theorem U3 {xs : List Nat} (hx : B8 xs) (bad : Bool) : SpM Tryz.prog I 47 [(0, some (rbx xs bad))] [.one (.ptr 0 0)] [(0, some (rbx (rst xs (AJ xs).2.1 (AJ xs).2.2) (bdd bad (AJ xs).2.2)))] (li ((AJ xs).1 : Nat)) := by
 have hd := WV (I := I) hx;have ht := O4 (I := I) xs bad (AJ xs).2.1 (AJ xs).2.2 (fun h => (Dz xs h).2.2.1)
 generalize AJ xs = r at *;exact sm 20 [po (hd), pom [0] (ht)]
theorem Vo (xs : List Nat) (h : (Eg xs).2.2 = 0) : (Eg xs).2.1 ≤ xs.length := by
 unfold Eg at h ⊢;split at h
 ·rename_i h1; rw [if_pos h1]; exact (Dz xs h1).2.2.1
 ·rename_i h1; exact absurd h h1
theorem TM (xs : List Nat) (h : (Cy xs).2.2 = 0) : (Cy xs).2.1 ≤ xs.length := by
 unfold Cy at h ⊢;have := Dz xs;generalize AJ xs = r at *;obtain ⟨a, b, e⟩ := r;simp only at *;by_cases h1 : e = 0
 ·have h9 := this h1
  subst h1;by_cases h2 : 20000 < a
  ·simp [h2] at h
  ·by_cases h3 : xs.length - b < a
   ·simp [h2, h3] at h
   ·simp [h2, h3]; omega
 ·simp [h1] at h
theorem SA {xs : List Nat} (hx : B8 xs) (bad : Bool) : SpM Tryz.prog I 51 [(0, some (rbx xs bad))] [.one (.ptr 0 0)] [(0, some (rbx (rst xs (Eg xs).2.1 (Eg xs).2.2) (bdd bad (Eg xs).2.2)))] (li (Eg xs).1) := by
 have hd := WX (I := I) hx;have ht := O4 (I := I) xs bad (Eg xs).2.1 (Eg xs).2.2 (Vo xs);generalize Eg xs = r at *;exact sm 20 [po (hd), pom [0] (ht)]
theorem PI {xs : List Nat} (hx : B8 xs) (bad : Bool) : SpM Tryz.prog I 50 [(0, some (rbx xs bad))] [.one (.ptr 0 0)] [(0, some (rbx (rst xs (Cy xs).2.1 (Cy xs).2.2) (bdd bad (Cy xs).2.2)))] (tS (Cy xs).1) := by
 have hd := WW (I := I) hx;have ht := O4 (I := I) xs bad (Cy xs).2.1 (Cy xs).2.2 (TM xs);generalize Cy xs = r at *;exact sm 20 [po (hd), pom [0] (ht)]
theorem C7 (xs : List Nat) (bad b : Bool) (h : (!bad && decide (xs.length = 0)) = b) : SpM Tryz.prog I 52 [(0, some (rbx xs bad))] [.one (.ptr 0 0)] [(0, some (rbx xs bad))] (lb b) := by
 cases bad with
 | true =>
  subst h;exact sm 16 [pa]
 | false =>
  by_cases h0 : xs.length = 0
  ·rw [decide_eq_true h0] at h; subst h
   exact sm 16 [pa, pk (BH 31 5 3 1 ((xs).map (Ad)) ((xs).length : Int)), pk (An 3 ((xs).length : Int) 0)]
  ·rw [decide_eq_false h0] at h; subst h
   exact sm 16 [pa, pk (BH 31 5 3 1 ((xs).map (Ad)) ((xs).length : Int)), pk (Ae 3 ((xs).length : Int) 0)]
theorem Qm {xs ys : List Nat} (b : Bool) (h : decide (xs = ys) = b) (hx : B8 xs) (hy : B8 ys) : Sp Tryz.prog I 53 [.t (bI xs), .t (bI ys)] (lb b) :=
 sr 10 [pk (GB xs), pk (GB ys), pk (RW 9 xs ys b h hx hy)]
end
abbrev chZ : CT := .ag [.i 0, .i 0, .o false, .z, .o false, .z, .i 0, .i 0, .i 0]
theorem Vi {bs r1 r2 : List Nat} {d1 d2 : Bool} {k n : Int} (hU1 : SpM Tryz.prog Ai 47 [(0, some (rbx bs false))] [.one (.ptr 0 0)] [(0, some (rbx r1 d1))] (li k)) (hU2 : SpM Tryz.prog Ai 47 [(0, some (rbx r1 d1))] [.one (.ptr 0 0)] [(0, some (rbx r2 d2))] (li n)) (hF : Sp Tryz.prog Ai 48 [ci 0, ci 1] (.tu [fc true 84 0, ci 0])) {r3 s : List Nat} {d3 : Bool} (hk : k = 1) (hT : SpM Tryz.prog Ai 50 [(0, some (rbx r2 d2))] [.one (.ptr 0 0)] [(0, some (rbx r3 d3))] (tS s)) {e : Int} (he : e ≠ 0) (hP : Sp Tryz.prog Ai 49 [cS s] (.tu [frz, ci e])) : Sp Tryz.prog Ai 16 [.t (bI bs)] (.tu [chZ, ci 2]) :=
 sr 62 [pom [4] (hU1), pom [4] (hU2), po (hF), pk (An 3 k 1), pom [4] (hT), po (hP), pk (AG 32 e 0)]
theorem TC {bs r1 r2 : List Nat} {d1 d2 : Bool} {k n : Int} (hU1 : SpM Tryz.prog Ai 47 [(0, some (rbx bs false))] [.one (.ptr 0 0)] [(0, some (rbx r1 d1))] (li k)) (hU2 : SpM Tryz.prog Ai 47 [(0, some (rbx r1 d1))] [.one (.ptr 0 0)] [(0, some (rbx r2 d2))] (li n)) (hF : Sp Tryz.prog Ai 48 [ci 0, ci 1] (.tu [fc true 84 0, ci 0])) {r3 s : List Nat} {d3 : Bool} (hk : k = 1) (hT : SpM Tryz.prog Ai 50 [(0, some (rbx r2 d2))] [.one (.ptr 0 0)] [(0, some (rbx r3 d3))] (tS s)) {q : Rat} (hP : Sp Tryz.prog Ai 49 [cS s] (.tu [fc true 84 q, ci 0])) (hD : SpM Tryz.prog Ai 52 [(0, some (rbx r3 d3))] [.one (.ptr 0 0)] [(0, some (rbx r3 d3))] (lb false)) : Sp Tryz.prog Ai 16 [.t (bI bs)] (.tu [chZ, ci 2]) :=
 sr 62 [pom [4] (hU1), pom [4] (hU2), po (hF), pk (An 3 k 1), pom [4] (hT), po (hP), pa, pom [4] (hD), pa]
theorem TB {bs r1 r2 : List Nat} {d1 d2 : Bool} {k n : Int} (hU1 : SpM Tryz.prog Ai 47 [(0, some (rbx bs false))] [.one (.ptr 0 0)] [(0, some (rbx r1 d1))] (li k)) (hU2 : SpM Tryz.prog Ai 47 [(0, some (rbx r1 d1))] [.one (.ptr 0 0)] [(0, some (rbx r2 d2))] (li n)) (hF : Sp Tryz.prog Ai 48 [ci 0, ci 1] (.tu [fc true 84 0, ci 0])) {r3 s : List Nat} {d3 : Bool} (hk : k = 1) (hT : SpM Tryz.prog Ai 50 [(0, some (rbx r2 d2))] [.one (.ptr 0 0)] [(0, some (rbx r3 d3))] (tS s)) {q : Rat} (hP : Sp Tryz.prog Ai 49 [cS s] (.tu [fc true 84 q, ci 0])) (hD : SpM Tryz.prog Ai 52 [(0, some (rbx r3 d3))] [.one (.ptr 0 0)] [(0, some (rbx r3 d3))] (lb true)) {c : List Nat} {e : Int} (he : e ≠ 0) (hE : Sp Tryz.prog Ai 13 [chK true 84 ⟨k, n, q, 0, 0, 0⟩] (.tu [.t (bI c), ci e])) : Sp Tryz.prog Ai 16 [.t (bI bs)] (.tu [chZ, ci 2]) :=
 sr 62 [pom [4] (hU1), pom [4] (hU2), po (hF), pk (An 3 k 1), pom [4] (hT), po (hP), pa, pom [4] (hD), pa, po (hE), pk (AG 32 e 0)]
theorem TA {bs r1 r2 : List Nat} {d1 d2 : Bool} {k n : Int} (hU1 : SpM Tryz.prog Ai 47 [(0, some (rbx bs false))] [.one (.ptr 0 0)] [(0, some (rbx r1 d1))] (li k)) (hU2 : SpM Tryz.prog Ai 47 [(0, some (rbx r1 d1))] [.one (.ptr 0 0)] [(0, some (rbx r2 d2))] (li n)) (hF : Sp Tryz.prog Ai 48 [ci 0, ci 1] (.tu [fc true 84 0, ci 0])) {r3 s : List Nat} {d3 : Bool} (hk : k = 1) (hT : SpM Tryz.prog Ai 50 [(0, some (rbx r2 d2))] [.one (.ptr 0 0)] [(0, some (rbx r3 d3))] (tS s)) {q : Rat} (hP : Sp Tryz.prog Ai 49 [cS s] (.tu [fc true 84 q, ci 0])) (hD : SpM Tryz.prog Ai 52 [(0, some (rbx r3 d3))] [.one (.ptr 0 0)] [(0, some (rbx r3 d3))] (lb true)) {c : List Nat} (hE : Sp Tryz.prog Ai 13 [chK true 84 ⟨k, n, q, 0, 0, 0⟩] (.tu [.t (bI c), ci 0])) (hQ : Sp Tryz.prog Ai 53 [.t (bI c), .t (bI bs)] (lb false)) : Sp Tryz.prog Ai 16 [.t (bI bs)] (.tu [chZ, ci 2]) :=
 sr 62 [pom [4] (hU1), pom [4] (hU2), po (hF), pk (An 3 k 1), pom [4] (hT), po (hP), pa, pom [4] (hD), pa, po (hE), pa, po (hQ), pa]
theorem T9 {bs r1 r2 : List Nat} {d1 d2 : Bool} {k n : Int} (hU1 : SpM Tryz.prog Ai 47 [(0, some (rbx bs false))] [.one (.ptr 0 0)] [(0, some (rbx r1 d1))] (li k)) (hU2 : SpM Tryz.prog Ai 47 [(0, some (rbx r1 d1))] [.one (.ptr 0 0)] [(0, some (rbx r2 d2))] (li n)) (hF : Sp Tryz.prog Ai 48 [ci 0, ci 1] (.tu [fc true 84 0, ci 0])) {r3 s : List Nat} {d3 : Bool} (hk : k = 1) (hT : SpM Tryz.prog Ai 50 [(0, some (rbx r2 d2))] [.one (.ptr 0 0)] [(0, some (rbx r3 d3))] (tS s)) {q : Rat} (hP : Sp Tryz.prog Ai 49 [cS s] (.tu [fc true 84 q, ci 0])) (hD : SpM Tryz.prog Ai 52 [(0, some (rbx r3 d3))] [.one (.ptr 0 0)] [(0, some (rbx r3 d3))] (lb true)) {c : List Nat} (hE : Sp Tryz.prog Ai 13 [chK true 84 ⟨k, n, q, 0, 0, 0⟩] (.tu [.t (bI c), ci 0])) (hQ : Sp Tryz.prog Ai 53 [.t (bI c), .t (bI bs)] (lb true)) : Sp Tryz.prog Ai 16 [.t (bI bs)] (.tu [chK true 84 ⟨k, n, q, 0, 0, 0⟩, ci 0]) :=
 sr 62 [pom [4] (hU1), pom [4] (hU2), po (hF), pk (An 3 k 1), pom [4] (hT), po (hP), pa, pom [4] (hD), pa, po (hE), pa, po (hQ), pa]
theorem T8 {bs r1 r2 : List Nat} {d1 d2 : Bool} {k n : Int} (hU1 : SpM Tryz.prog Ai 47 [(0, some (rbx bs false))] [.one (.ptr 0 0)] [(0, some (rbx r1 d1))] (li k)) (hU2 : SpM Tryz.prog Ai 47 [(0, some (rbx r1 d1))] [.one (.ptr 0 0)] [(0, some (rbx r2 d2))] (li n)) (hF : Sp Tryz.prog Ai 48 [ci 0, ci 1] (.tu [fc true 84 0, ci 0])) {r3 r4 : List Nat} {d3 d4 : Bool} {a b : Int} (hk : k = 2) (hU3 : SpM Tryz.prog Ai 47 [(0, some (rbx r2 d2))] [.one (.ptr 0 0)] [(0, some (rbx r3 d3))] (li a)) (hU4 : SpM Tryz.prog Ai 47 [(0, some (rbx r3 d3))] [.one (.ptr 0 0)] [(0, some (rbx r4 d4))] (li b)) (hD : SpM Tryz.prog Ai 52 [(0, some (rbx r4 d4))] [.one (.ptr 0 0)] [(0, some (rbx r4 d4))] (lb false)) : Sp Tryz.prog Ai 16 [.t (bI bs)] (.tu [chZ, ci 2]) :=
 sr 62 [pom [4] (hU1), pom [4] (hU2), po (hF), pk (Ae 3 k 1), pk (An 3 k 2), pom [4] (hU3), pom [4] (hU4), pom [4] (hD), pa]
theorem T7 {bs r1 r2 : List Nat} {d1 d2 : Bool} {k n : Int} (hU1 : SpM Tryz.prog Ai 47 [(0, some (rbx bs false))] [.one (.ptr 0 0)] [(0, some (rbx r1 d1))] (li k)) (hU2 : SpM Tryz.prog Ai 47 [(0, some (rbx r1 d1))] [.one (.ptr 0 0)] [(0, some (rbx r2 d2))] (li n)) (hF : Sp Tryz.prog Ai 48 [ci 0, ci 1] (.tu [fc true 84 0, ci 0])) {r3 r4 : List Nat} {d3 d4 : Bool} {a b : Int} (hk : k = 2) (hU3 : SpM Tryz.prog Ai 47 [(0, some (rbx r2 d2))] [.one (.ptr 0 0)] [(0, some (rbx r3 d3))] (li a)) (hU4 : SpM Tryz.prog Ai 47 [(0, some (rbx r3 d3))] [.one (.ptr 0 0)] [(0, some (rbx r4 d4))] (li b)) (hD : SpM Tryz.prog Ai 52 [(0, some (rbx r4 d4))] [.one (.ptr 0 0)] [(0, some (rbx r4 d4))] (lb true)) {c : List Nat} {e : Int} (he : e ≠ 0) (hE : Sp Tryz.prog Ai 13 [chK true 84 ⟨k, n, 0, a, b, 0⟩] (.tu [.t (bI c), ci e])) : Sp Tryz.prog Ai 16 [.t (bI bs)] (.tu [chZ, ci 2]) :=
 sr 62 [pom [4] (hU1), pom [4] (hU2), po (hF), pk (Ae 3 k 1), pk (An 3 k 2), pom [4] (hU3), pom [4] (hU4), pom [4] (hD), pa, po (hE), pk (AG 32 e 0)]
theorem T6 {bs r1 r2 : List Nat} {d1 d2 : Bool} {k n : Int} (hU1 : SpM Tryz.prog Ai 47 [(0, some (rbx bs false))] [.one (.ptr 0 0)] [(0, some (rbx r1 d1))] (li k)) (hU2 : SpM Tryz.prog Ai 47 [(0, some (rbx r1 d1))] [.one (.ptr 0 0)] [(0, some (rbx r2 d2))] (li n)) (hF : Sp Tryz.prog Ai 48 [ci 0, ci 1] (.tu [fc true 84 0, ci 0])) {r3 r4 : List Nat} {d3 d4 : Bool} {a b : Int} (hk : k = 2) (hU3 : SpM Tryz.prog Ai 47 [(0, some (rbx r2 d2))] [.one (.ptr 0 0)] [(0, some (rbx r3 d3))] (li a)) (hU4 : SpM Tryz.prog Ai 47 [(0, some (rbx r3 d3))] [.one (.ptr 0 0)] [(0, some (rbx r4 d4))] (li b)) (hD : SpM Tryz.prog Ai 52 [(0, some (rbx r4 d4))] [.one (.ptr 0 0)] [(0, some (rbx r4 d4))] (lb true)) {c : List Nat} (hE : Sp Tryz.prog Ai 13 [chK true 84 ⟨k, n, 0, a, b, 0⟩] (.tu [.t (bI c), ci 0])) (hQ : Sp Tryz.prog Ai 53 [.t (bI c), .t (bI bs)] (lb false)) : Sp Tryz.prog Ai 16 [.t (bI bs)] (.tu [chZ, ci 2]) :=
 sr 62 [pom [4] (hU1), pom [4] (hU2), po (hF), pk (Ae 3 k 1), pk (An 3 k 2), pom [4] (hU3), pom [4] (hU4), pom [4] (hD), pa, po (hE), pa, po (hQ), pa]
theorem T5 {bs r1 r2 : List Nat} {d1 d2 : Bool} {k n : Int} (hU1 : SpM Tryz.prog Ai 47 [(0, some (rbx bs false))] [.one (.ptr 0 0)] [(0, some (rbx r1 d1))] (li k)) (hU2 : SpM Tryz.prog Ai 47 [(0, some (rbx r1 d1))] [.one (.ptr 0 0)] [(0, some (rbx r2 d2))] (li n)) (hF : Sp Tryz.prog Ai 48 [ci 0, ci 1] (.tu [fc true 84 0, ci 0])) {r3 r4 : List Nat} {d3 d4 : Bool} {a b : Int} (hk : k = 2) (hU3 : SpM Tryz.prog Ai 47 [(0, some (rbx r2 d2))] [.one (.ptr 0 0)] [(0, some (rbx r3 d3))] (li a)) (hU4 : SpM Tryz.prog Ai 47 [(0, some (rbx r3 d3))] [.one (.ptr 0 0)] [(0, some (rbx r4 d4))] (li b)) (hD : SpM Tryz.prog Ai 52 [(0, some (rbx r4 d4))] [.one (.ptr 0 0)] [(0, some (rbx r4 d4))] (lb true)) {c : List Nat} (hE : Sp Tryz.prog Ai 13 [chK true 84 ⟨k, n, 0, a, b, 0⟩] (.tu [.t (bI c), ci 0])) (hQ : Sp Tryz.prog Ai 53 [.t (bI c), .t (bI bs)] (lb true)) : Sp Tryz.prog Ai 16 [.t (bI bs)] (.tu [chK true 84 ⟨k, n, 0, a, b, 0⟩, ci 0]) :=
 sr 62 [pom [4] (hU1), pom [4] (hU2), po (hF), pk (Ae 3 k 1), pk (An 3 k 2), pom [4] (hU3), pom [4] (hU4), pom [4] (hD), pa, po (hE), pa, po (hQ), pa]
theorem T4 {bs r1 r2 : List Nat} {d1 d2 : Bool} {k n : Int} (hU1 : SpM Tryz.prog Ai 47 [(0, some (rbx bs false))] [.one (.ptr 0 0)] [(0, some (rbx r1 d1))] (li k)) (hU2 : SpM Tryz.prog Ai 47 [(0, some (rbx r1 d1))] [.one (.ptr 0 0)] [(0, some (rbx r2 d2))] (li n)) (hF : Sp Tryz.prog Ai 48 [ci 0, ci 1] (.tu [fc true 84 0, ci 0])) {r3 : List Nat} {d3 : Bool} {z : Int} (hk : k = 3) (hI : SpM Tryz.prog Ai 51 [(0, some (rbx r2 d2))] [.one (.ptr 0 0)] [(0, some (rbx r3 d3))] (li z)) (hD : SpM Tryz.prog Ai 52 [(0, some (rbx r3 d3))] [.one (.ptr 0 0)] [(0, some (rbx r3 d3))] (lb false)) : Sp Tryz.prog Ai 16 [.t (bI bs)] (.tu [chZ, ci 2]) :=
 sr 62 [pom [4] (hU1), pom [4] (hU2), po (hF), pk (Ae 3 k 1), pk (Ae 3 k 2), pk (An 3 k 3), pom [4] (hI), pom [4] (hD), pa]
theorem T3 {bs r1 r2 : List Nat} {d1 d2 : Bool} {k n : Int} (hU1 : SpM Tryz.prog Ai 47 [(0, some (rbx bs false))] [.one (.ptr 0 0)] [(0, some (rbx r1 d1))] (li k)) (hU2 : SpM Tryz.prog Ai 47 [(0, some (rbx r1 d1))] [.one (.ptr 0 0)] [(0, some (rbx r2 d2))] (li n)) (hF : Sp Tryz.prog Ai 48 [ci 0, ci 1] (.tu [fc true 84 0, ci 0])) {r3 : List Nat} {d3 : Bool} {z : Int} (hk : k = 3) (hI : SpM Tryz.prog Ai 51 [(0, some (rbx r2 d2))] [.one (.ptr 0 0)] [(0, some (rbx r3 d3))] (li z)) (hD : SpM Tryz.prog Ai 52 [(0, some (rbx r3 d3))] [.one (.ptr 0 0)] [(0, some (rbx r3 d3))] (lb true)) {c : List Nat} {e : Int} (he : e ≠ 0) (hE : Sp Tryz.prog Ai 13 [chK true 84 ⟨k, n, 0, 0, 0, z⟩] (.tu [.t (bI c), ci e])) : Sp Tryz.prog Ai 16 [.t (bI bs)] (.tu [chZ, ci 2]) :=
 sr 62 [pom [4] (hU1), pom [4] (hU2), po (hF), pk (Ae 3 k 1), pk (Ae 3 k 2), pk (An 3 k 3), pom [4] (hI), pom [4] (hD), pa, po (hE), pk (AG 32 e 0)]
theorem Tz {bs r1 r2 : List Nat} {d1 d2 : Bool} {k n : Int} (hU1 : SpM Tryz.prog Ai 47 [(0, some (rbx bs false))] [.one (.ptr 0 0)] [(0, some (rbx r1 d1))] (li k)) (hU2 : SpM Tryz.prog Ai 47 [(0, some (rbx r1 d1))] [.one (.ptr 0 0)] [(0, some (rbx r2 d2))] (li n)) (hF : Sp Tryz.prog Ai 48 [ci 0, ci 1] (.tu [fc true 84 0, ci 0])) {r3 : List Nat} {d3 : Bool} {z : Int} (hk : k = 3) (hI : SpM Tryz.prog Ai 51 [(0, some (rbx r2 d2))] [.one (.ptr 0 0)] [(0, some (rbx r3 d3))] (li z)) (hD : SpM Tryz.prog Ai 52 [(0, some (rbx r3 d3))] [.one (.ptr 0 0)] [(0, some (rbx r3 d3))] (lb true)) {c : List Nat} (hE : Sp Tryz.prog Ai 13 [chK true 84 ⟨k, n, 0, 0, 0, z⟩] (.tu [.t (bI c), ci 0])) (hQ : Sp Tryz.prog Ai 53 [.t (bI c), .t (bI bs)] (lb false)) : Sp Tryz.prog Ai 16 [.t (bI bs)] (.tu [chZ, ci 2]) :=
 sr 62 [pom [4] (hU1), pom [4] (hU2), po (hF), pk (Ae 3 k 1), pk (Ae 3 k 2), pk (An 3 k 3), pom [4] (hI), pom [4] (hD), pa, po (hE), pa, po (hQ), pa]
theorem Ty {bs r1 r2 : List Nat} {d1 d2 : Bool} {k n : Int} (hU1 : SpM Tryz.prog Ai 47 [(0, some (rbx bs false))] [.one (.ptr 0 0)] [(0, some (rbx r1 d1))] (li k)) (hU2 : SpM Tryz.prog Ai 47 [(0, some (rbx r1 d1))] [.one (.ptr 0 0)] [(0, some (rbx r2 d2))] (li n)) (hF : Sp Tryz.prog Ai 48 [ci 0, ci 1] (.tu [fc true 84 0, ci 0])) {r3 : List Nat} {d3 : Bool} {z : Int} (hk : k = 3) (hI : SpM Tryz.prog Ai 51 [(0, some (rbx r2 d2))] [.one (.ptr 0 0)] [(0, some (rbx r3 d3))] (li z)) (hD : SpM Tryz.prog Ai 52 [(0, some (rbx r3 d3))] [.one (.ptr 0 0)] [(0, some (rbx r3 d3))] (lb true)) {c : List Nat} (hE : Sp Tryz.prog Ai 13 [chK true 84 ⟨k, n, 0, 0, 0, z⟩] (.tu [.t (bI c), ci 0])) (hQ : Sp Tryz.prog Ai 53 [.t (bI c), .t (bI bs)] (lb true)) : Sp Tryz.prog Ai 16 [.t (bI bs)] (.tu [chK true 84 ⟨k, n, 0, 0, 0, z⟩, ci 0]) :=
 sr 62 [pom [4] (hU1), pom [4] (hU2), po (hF), pk (Ae 3 k 1), pk (Ae 3 k 2), pk (An 3 k 3), pom [4] (hI), pom [4] (hD), pa, po (hE), pa, po (hQ), pa]
theorem TF {bs r1 r2 : List Nat} {d1 d2 : Bool} {k n : Int} (hU1 : SpM Tryz.prog Ai 47 [(0, some (rbx bs false))] [.one (.ptr 0 0)] [(0, some (rbx r1 d1))] (li k)) (hU2 : SpM Tryz.prog Ai 47 [(0, some (rbx r1 d1))] [.one (.ptr 0 0)] [(0, some (rbx r2 d2))] (li n)) (hF : Sp Tryz.prog Ai 48 [ci 0, ci 1] (.tu [fc true 84 0, ci 0])) (h1 : k ≠ 1) (h2 : k ≠ 2) (h3 : k ≠ 3) (hD : SpM Tryz.prog Ai 52 [(0, some (rbx r2 d2))] [.one (.ptr 0 0)] [(0, some (rbx r2 d2))] (lb false)) : Sp Tryz.prog Ai 16 [.t (bI bs)] (.tu [chZ, ci 2]) :=
 sr 62 [pom [4] (hU1), pom [4] (hU2), po (hF), pk (Ae 3 k 1), pk (Ae 3 k 2), pk (Ae 3 k 3), pom [4] (hD), pa]
theorem TE {bs r1 r2 : List Nat} {d1 d2 : Bool} {k n : Int} (hU1 : SpM Tryz.prog Ai 47 [(0, some (rbx bs false))] [.one (.ptr 0 0)] [(0, some (rbx r1 d1))] (li k)) (hU2 : SpM Tryz.prog Ai 47 [(0, some (rbx r1 d1))] [.one (.ptr 0 0)] [(0, some (rbx r2 d2))] (li n)) (hF : Sp Tryz.prog Ai 48 [ci 0, ci 1] (.tu [fc true 84 0, ci 0])) (h1 : k ≠ 1) (h2 : k ≠ 2) (h3 : k ≠ 3) (hD : SpM Tryz.prog Ai 52 [(0, some (rbx r2 d2))] [.one (.ptr 0 0)] [(0, some (rbx r2 d2))] (lb true)) {c : List Nat} {e : Int} (he : e ≠ 0) (hE : Sp Tryz.prog Ai 13 [chK true 84 ⟨k, n, 0, 0, 0, 0⟩] (.tu [.t (bI c), ci e])) : Sp Tryz.prog Ai 16 [.t (bI bs)] (.tu [chZ, ci 2]) :=
 sr 62 [pom [4] (hU1), pom [4] (hU2), po (hF), pk (Ae 3 k 1), pk (Ae 3 k 2), pk (Ae 3 k 3), pom [4] (hD), pa, po (hE), pk (AG 32 e 0)]
theorem TD {bs r1 r2 : List Nat} {d1 d2 : Bool} {k n : Int} (hU1 : SpM Tryz.prog Ai 47 [(0, some (rbx bs false))] [.one (.ptr 0 0)] [(0, some (rbx r1 d1))] (li k)) (hU2 : SpM Tryz.prog Ai 47 [(0, some (rbx r1 d1))] [.one (.ptr 0 0)] [(0, some (rbx r2 d2))] (li n)) (hF : Sp Tryz.prog Ai 48 [ci 0, ci 1] (.tu [fc true 84 0, ci 0])) (h1 : k ≠ 1) (h2 : k ≠ 2) (h3 : k ≠ 3) (hD : SpM Tryz.prog Ai 52 [(0, some (rbx r2 d2))] [.one (.ptr 0 0)] [(0, some (rbx r2 d2))] (lb true)) {c : List Nat} (hE : Sp Tryz.prog Ai 13 [chK true 84 ⟨k, n, 0, 0, 0, 0⟩] (.tu [.t (bI c), ci 0])) (hQ : Sp Tryz.prog Ai 53 [.t (bI c), .t (bI bs)] (lb false)) : Sp Tryz.prog Ai 16 [.t (bI bs)] (.tu [chZ, ci 2]) :=
 sr 62 [pom [4] (hU1), pom [4] (hU2), po (hF), pk (Ae 3 k 1), pk (Ae 3 k 2), pk (Ae 3 k 3), pom [4] (hD), pa, po (hE), pa, po (hQ), pa]
theorem KJ {z : Int} (h : (BK z).length ≤ 800) : Lim 84 z := by
 have h1 : (dec z.natAbs).length ≤ 800 := by
  unfold BK C8 at h;rw [List.length_append] at h;omega
 have h2 := CI (KS z.natAbs).2.1 h1;rw [Gy] at h2;unfold Lim at h2 ⊢
 simpa using h2
theorem Qj {q : Rat} (h : (Bl q).length ≤ 400) : Lq q 84 := by
 unfold Bl at h;split at h
 ·rename_i h1
  exact ⟨KJ (by omega), by rw [h1]; exact DV (by omega), by omega⟩
 ·simp only [List.length_append] at h
  exact ⟨KJ (by omega), KJ (by omega), by omega⟩
theorem NR {q : Rat} {e : Int} (h : Lq q 84) {f : FuncId} {args : List CT} {I : WInv} (hs : Sp Tryz.prog I f args (.tu [frc q, ci e])) : Sp Tryz.prog I f args (.tu [fc true 84 q, ci e]) := hs.rs (MU ⟨Jf h, CTle.refl, trivial⟩)
theorem OI {xs : List Nat} (hx : B8 xs) : (∃ q : Rat, Sp Tryz.prog Ai 49 [cS xs] (.tu [fc true 84 q, ci 0])) ∨ (∃ e : Int, e ≠ 0 ∧ Sp Tryz.prog Ai 49 [cS xs] (.tu [frz, ci e])) := by
 by_cases hl : xs.length ≤ 400
 ·cases hi : Cv 47 xs with
  | some i =>
   by_cases h : Cs (Bd (xs.take i)) (AK (xs.take i)) ∧ Gc (xs.drop (i + 1)) ∧ xs.drop (i + 1) ≠ [48]
   ·have l1 : (xs.take i).length ≤ 400 := by rw [List.length_take]; omega
    have l2 : (xs.drop (i + 1)).length ≤ 400 := by rw [List.length_drop]; omega
    have l3 := Ct (xs.take i);exact .inl ⟨_, NR ⟨EQ ((CI h.1.1.2.1 (by omega)).sgn _), ES (CI h.2.1.2.1 (by omega)) (by omega), by omega⟩ (GQ hx hl hi h.1 h.2.1 h.2.2)⟩
   ·exact .inr ⟨1, by omega, Nt hx hl hi h⟩
  | none =>
   cases hj : Cv 46 xs with
   | some j =>
    have hlt := (FS hj).1;have l1 : (xs.take j).length = j := by rw [List.length_take]; omega
    have l2 : (xs.drop (j + 1)).length = xs.length - (j + 1) := List.length_drop;have l3 := Ct (xs.take j);by_cases h : Gc (AK (xs.take j)) ∧ xs.drop (j + 1) ≠ [] ∧ okD (xs.drop (j + 1))
    ·exact .inl ⟨_, NR ⟨EQ ((CI (h.1.2.1.app h.2.2) (by rw [List.length_append]; omega)).sgn _), ES (P9 (by omega)) (by omega), by omega⟩ (Kx hx hl hi hj (.inl ⟨_, rfl⟩) (UF (hx.take j) (by omega) h.1 h.2.1 h.2.2))⟩
    ·exact .inr ⟨1, by omega, Kx hx hl hi hj (.inr rfl) (Wv (hx.take j) (hx.drop (j + 1)) (by omega) (by omega) h)⟩
   | none =>
    have l3 := Ct xs;by_cases h : Cs (Bd xs) (AK xs)
    ·exact .inl ⟨_, NR (Lq.int ((CI h.1.2.1 (by omega)).sgn _) (by omega)) (Kw hx hl hi hj h)⟩
    ·exact .inr ⟨1, by omega, Nv hx hl hi hj h⟩
 ·exact .inr ⟨10, by omega, Nu (by omega)⟩
theorem AW : Sp Tryz.prog Ai 48 [ci 0, ci 1] (.tu [fc true 84 0, ci 0]) := by
 have := NQ (I := Ai) (a := 0) (b := 1) ⟨by omega, by omega⟩ ⟨by omega, by omega⟩ (by omega)
 rw [show Rat.divInt 0 1 = 0 by rfl] at this
 exact NR ⟨F6 84, DV (by omega), by omega⟩ this
def rU (xs : List Nat) : List Nat := rst xs (AJ xs).2.1 (AJ xs).2.2
def eU (xs : List Nat) : Nat := (AJ xs).2.2
theorem Fx {n : Nat} {r : List Nat} (h : n ≤ 4611686018427387904) : (AJ (Aa n ++ r)).1 = n ∧ eU (Aa n ++ r) = 0 ∧ rU (Aa n ++ r) = r := by
 unfold eU rU;rw [C4 n r h];exact ⟨rfl, rfl, by simp [rst]⟩
theorem Jv {xs : List Nat} (h : B8 xs) : B8 (rU xs) := Wi h _ _
theorem Ns {q : Rat} (h : q.num.sign = 0) : q = 0 := by
 have h1 : q.num = 0 := Int.sign_eq_zero_iff_zero.1 h;have := Bf q;rw [h1, Rat.zero_divInt] at this;exact this.symm
theorem FR {x : Ch} {b : List Nat} (h : AT x = (b, 0)) : ∃ n : Nat, n ≤ 1099511627776 ∧ x.node = (n : Int) ∧ ((x = ⟨1, n, x.q, 0, 0, 0⟩ ∧ (Bl x.q).length ≤ 400 ∧ b = Aa 1 ++ (Aa n ++ (Aa (Bl x.q).length ++ Bl x.q))) ∨ (∃ a c : Nat, a ≤ 1099511627776 ∧ c ≤ 1099511627776 ∧ x = ⟨2, n, 0, a, c, 0⟩ ∧ b = Aa 2 ++ (Aa n ++ (Aa a ++ Aa c))) ∨ (x = ⟨3, n, 0, 0, 0, x.cost⟩ ∧ CN x.cost = true ∧ b = Aa 3 ++ (Aa n ++ Aa (zig x.cost)))) := by
 unfold AT at h;split at h
 ·cases h
 ·rename_i hw
  simp only [Bool.not_eq_false] at hw;split at h
  ·cases h
  ·rename_i hl
   injection h with h;obtain ⟨n, hn, e1, hc⟩ := JU hw;obtain ⟨kind, node, q, fst, nxt, cost⟩ := x;simp only at *;subst e1;refine ⟨n, hn, rfl, ?_⟩;rcases hc with ⟨rfl, rfl, rfl, rfl⟩ | ⟨rfl, hs, rfl, a, c, ha, hc, rfl, rfl⟩ | ⟨rfl, hs, rfl, rfl, rfl, hz⟩
   ·exact .inl ⟨rfl, by omega, by rw [← h]; simp [LE]⟩
   ·rw [Ns hs] at h ⊢
    exact .inr (.inl ⟨a, c, ha, hc, rfl, by rw [← h]; simp [LE]⟩)
   ·rw [Ns hs] at h ⊢
    exact .inr (.inr ⟨rfl, hz, by rw [← h]; simp [LE]⟩)
theorem Di {n : Nat} (h : n ≤ 4611686018427387904) : B8 (Aa n) := KP h
theorem EU (x : Ch) : B8 (AT x).1 := by
 by_cases h : (AT x).2 = 0
 ·have e : AT x = ((AT x).1, 0) := by rw [← h]
  obtain ⟨n, hn, e1, h1 | ⟨a, c, ha, hc, e2, h2⟩ | ⟨e2, hz, h2⟩⟩ := FR e
  ·rw [h1.2.2]; exact (Di (by omega)).app ((Di (by omega)).app ((Di (by omega)).app (GZ _)))
  ·rw [h2]; exact (Di (by omega)).app ((Di (by omega)).app ((Di (by omega)).app (Di (by omega))))
  ·rw [h2]
   have hc := C5 hz;exact (Di (by omega)).app ((Di (by omega)).app (Di (Hq _ (by omega) (by omega))))
 ·intro y hy
  exfalso;unfold AT at h hy;split at h
  ·rename_i h1; rw [if_pos h1] at hy; cases hy
  ·split at h
   ·rename_i h1 h2; rw [if_neg h1, if_pos h2] at hy; cases hy
   ·exact h rfl
theorem Ey (x : Ch) : (AT x).1.length ≤ 500 := by
 by_cases h : (AT x).2 = 0
 ·have e : AT x = ((AT x).1, 0) := by rw [← h]
  have l1 := At (n := 1) (by omega)
  have l2 := At (n := 2) (by omega)
  have l3 := At (n := 3) (by omega)
  obtain ⟨n, hn, e1, h1 | ⟨a, c, ha, hc, e2, h2⟩ | ⟨e2, hz, h2⟩⟩ := FR e
  ·have l4 := At (n := n) (by omega)
   have l5 := At (n := (Bl x.q).length) (by omega)
   rw [h1.2.2]; simp only [List.length_append]; omega
  ·have l4 := At (n := n) (by omega)
   have l5 := At (n := a) (by omega)
   have l6 := At (n := c) (by omega)
   rw [h2]; simp only [List.length_append]; omega
  ·have hc := C5 hz
   have l4 := At (n := n) (by omega)
   have l5 := At (Hq x.cost (by omega) (by omega))
   rw [h2]; simp only [List.length_append]; omega
 ·unfold AT at h ⊢
  split
  ·simp
  ·split
   ·simp
   ·rename_i h1 h2; rw [if_neg h1, if_neg h2] at h; exact absurd rfl h
theorem VK (x : Ch) : Sp Tryz.prog Ai 13 [chK true 84 x] (.tu [.t (bI (AT x).1), ci (AT x).2]) := (Tt x (by omega)).inv RV
theorem Ni {xs : List Nat} (hx : B8 xs) (bad : Bool) : SpM Tryz.prog Ai 47 [(0, some (rbx xs bad))] [.one (.ptr 0 0)] [(0, some (rbx (rU xs) (bdd bad (eU xs))))] (li ((AJ xs).1 : Nat)) := U3 hx bad
theorem Ro {y : Ch} {b : List Nat} (hy : AT y = (b, 0)) : Sp Tryz.prog Ai 16 [.t (bI b)] (.tu [chK true 84 y, ci 0]) := by
 have hb : B8 b := by have := EU y; rwa [hy] at this
 have hE := VK y;rw [hy] at hE;have hQ := Qm (I := Ai) (xs := b) (ys := b) true (decide_eq_true rfl) hb hb;have hU1 := Ni hb false;have hU2 := Ni (Jv hb) (bdd false (eU b));have b2 := Jv (Jv hb);obtain ⟨n, hn, e1, ⟨ey, hl, h1⟩ | ⟨a, c, ha, hc, ey, h1⟩ | ⟨ey, hz, h1⟩⟩ := FR hy
 ·obtain ⟨f1, f2, f3⟩ := Fx (n := 1) (r := Aa n ++ (Aa (Bl y.q).length ++ Bl y.q)) (by omega)
  obtain ⟨g1, g2, g3⟩ := Fx (n := n) (r := Aa (Bl y.q).length ++ Bl y.q) (by omega)
  rw [← h1] at f1 f2 f3;rw [f1, f2, f3] at hU1;rw [f2, f3, g1, g2, g3] at hU2;rw [f3, g3] at b2;have hT := PI (I := Ai) b2 (bdd (bdd false 0) 0);have hd := TN (Bl y.q) [] (by omega)
  rw [List.append_nil] at hd;rw [hd] at hT;have er : rst (Aa (Bl y.q).length ++ Bl y.q) (Aa (Bl y.q).length ++ Bl y.q).length 0 = [] := by unfold rst; rw [if_pos rfl]; exact List.drop_eq_nil_of_le (Nat.le_refl _)
  have hT : SpM Tryz.prog Ai _ _ _ [(0, some (rbx (rst (Aa (Bl y.q).length ++ Bl y.q) (Aa (Bl y.q).length ++ Bl y.q).length 0) (bdd (bdd (bdd false 0) 0) 0)))] _ := hT;rw [er] at hT;rw [ey] at hE ⊢;exact T9 hU1 hU2 AW rfl hT (NR (Qj hl) (OH y.q hl)) (C7 [] _ true rfl) hE hQ
 ·obtain ⟨f1, f2, f3⟩ := Fx (n := 2) (r := Aa n ++ (Aa a ++ Aa c)) (by omega)
  obtain ⟨g1, g2, g3⟩ := Fx (n := n) (r := Aa a ++ Aa c) (by omega)
  obtain ⟨k1, k2, k3⟩ := Fx (n := a) (r := Aa c) (by omega)
  obtain ⟨l1, l2, l3⟩ := Fx (n := c) (r := []) (by omega)
  rw [List.append_nil] at l1 l2 l3;rw [← h1] at f1 f2 f3;rw [f1, f2, f3] at hU1;rw [f2, f3, g1, g2, g3] at hU2;rw [f3, g3] at b2;have hU3 := Ni b2 (bdd (bdd false 0) 0);have hU4 := Ni (Jv b2) (bdd (bdd (bdd false 0) 0) (eU (Aa a ++ Aa c)));rw [k1, k2, k3] at hU3;rw [k2, k3, l1, l2, l3] at hU4;rw [ey] at hE ⊢;exact T5 hU1 hU2 AW rfl hU3 hU4 (C7 [] _ true rfl) hE hQ
 ·have hc := C5 hz
  obtain ⟨f1, f2, f3⟩ := Fx (n := 3) (r := Aa n ++ Aa (zig y.cost)) (by omega)
  obtain ⟨g1, g2, g3⟩ := Fx (n := n) (r := Aa (zig y.cost)) (by omega)
  rw [← h1] at f1 f2 f3;rw [f1, f2, f3] at hU1;rw [f2, f3, g1, g2, g3] at hU2;rw [f3, g3] at b2;have hI := SA (I := Ai) b2 (bdd (bdd false 0) 0);have hd := TO y.cost [] (by omega) (by omega)
  rw [List.append_nil] at hd;rw [hd] at hI;have er : rst (Aa (zig y.cost)) (Aa (zig y.cost)).length 0 = [] := by unfold rst; rw [if_pos rfl]; exact List.drop_eq_nil_of_le (Nat.le_refl _)
  have hI : SpM Tryz.prog Ai _ _ _ [(0, some (rbx (rst (Aa (zig y.cost)) (Aa (zig y.cost)).length 0) (bdd (bdd (bdd false 0) 0) 0)))] _ := hI;rw [er] at hI;rw [ey] at hE ⊢;exact Ty hU1 hU2 AW rfl hI (C7 [] _ true rfl) hE hQ
theorem KC {b : List Nat} (hb : B8 b) (hno : ∀ y, AT y ≠ (b, 0)) : Sp Tryz.prog Ai 16 [.t (bI b)] (.tu [chZ, ci 2]) := by
 have ends : ∀ x : Ch, (∃ e : Int, e ≠ 0 ∧ ∃ c, Sp Tryz.prog Ai 13 [chK true 84 x] (.tu [.t (bI c), ci e])) ∨ (∃ c, Sp Tryz.prog Ai 13 [chK true 84 x] (.tu [.t (bI c), ci 0]) ∧ Sp Tryz.prog Ai 53 [.t (bI c), .t (bI b)] (lb false)) := by
  intro x;have hE := VK x;by_cases h : (AT x).2 = 0
  ·rw [h] at hE
   exact .inr ⟨_, hE, Qm false (decide_eq_false fun h2 => hno x (by rw [← h2, ← h])) (EU x) hb⟩
  ·exact .inl ⟨_, h, _, hE⟩
 have hU1 := Ni hb false;have hU2 := Ni (Jv hb) (bdd false (eU b));have b2 := Jv (Jv hb);generalize rU (rU b) = r2 at *;generalize bdd (bdd false (eU b)) (eU (rU b)) = d2 at *;by_cases k1 : ((AJ b).1 : Int) = 1
 ·have hT := PI (I := Ai) b2 d2
  have hs : B8 (Cy r2).1 := by
   unfold Cy;split
   ·exact fun x hx => by cases hx
   ·split
    ·exact fun x hx => by cases hx
    ·split
     ·exact fun x hx => by cases hx
     ·exact (b2.drop _).take _
  rcases OI hs with ⟨q, hP⟩ | ⟨e, he, hP⟩
  ·cases hd : (!(bdd d2 (Cy r2).2.2) && decide ((rst r2 (Cy r2).2.1 (Cy r2).2.2).length = 0)) with
   | false => exact TC hU1 hU2 AW k1 hT hP (C7 _ _ false hd)
   | true =>
    rcases ends ⟨((AJ b).1 : Nat), ((AJ (rU b)).1 : Nat), q, 0, 0, 0⟩ with ⟨e, he, c, hE⟩ | ⟨c, hE, hQ⟩
    ·exact TB hU1 hU2 AW k1 hT hP (C7 _ _ true hd) he hE
    ·exact TA hU1 hU2 AW k1 hT hP (C7 _ _ true hd) hE hQ
  ·exact Vi hU1 hU2 AW k1 hT he hP
 ·by_cases k2 : ((AJ b).1 : Int) = 2
  ·have hU3 := Ni b2 d2
   have hU4 := Ni (Jv b2) (bdd d2 (eU r2));cases hd : (!(bdd (bdd d2 (eU r2)) (eU (rU r2))) && decide ((rU (rU r2)).length = 0)) with
   | false => exact T8 hU1 hU2 AW k2 hU3 hU4 (C7 _ _ false hd)
   | true =>
    rcases ends ⟨((AJ b).1 : Nat), ((AJ (rU b)).1 : Nat), 0, ((AJ r2).1 : Nat), ((AJ (rU r2)).1 : Nat), 0⟩ with ⟨e, he, c, hE⟩ | ⟨c, hE, hQ⟩
    ·exact T7 hU1 hU2 AW k2 hU3 hU4 (C7 _ _ true hd) he hE
    ·exact T6 hU1 hU2 AW k2 hU3 hU4 (C7 _ _ true hd) hE hQ
  ·by_cases k3 : ((AJ b).1 : Int) = 3
   ·have hI := SA (I := Ai) b2 d2
    cases hd : (!(bdd d2 (Eg r2).2.2) && decide ((rst r2 (Eg r2).2.1 (Eg r2).2.2).length = 0)) with
    | false => exact T4 hU1 hU2 AW k3 hI (C7 _ _ false hd)
    | true =>
     rcases ends ⟨((AJ b).1 : Nat), ((AJ (rU b)).1 : Nat), 0, 0, 0, (Eg r2).1⟩ with ⟨e, he, c, hE⟩ | ⟨c, hE, hQ⟩
     ·exact T3 hU1 hU2 AW k3 hI (C7 _ _ true hd) he hE
     ·exact Tz hU1 hU2 AW k3 hI (C7 _ _ true hd) hE hQ
   ·cases hd : (!d2 && decide (r2.length = 0)) with
    | false => exact TF hU1 hU2 AW k1 k2 k3 (C7 _ _ false hd)
    | true =>
     rcases ends ⟨((AJ b).1 : Nat), ((AJ (rU b)).1 : Nat), 0, 0, 0, 0⟩ with ⟨e, he, c, hE⟩ | ⟨c, hE, hQ⟩
     ·exact TE hU1 hU2 AW k1 k2 k3 (C7 _ _ true hd) he hE
     ·exact TD hU1 hU2 AW k1 k2 k3 (C7 _ _ true hd) hE hQ
set_option maxRecDepth 100000 in
theorem FK (n : Nat) (w : World) (hn : n ≤ 4611686018427387904) :
  Calls Tryz.prog 43 #[.int .i64 n] w (MO .u8 5 w (Aa n)) := by
 go_enter Tryz.func43, Tryz.ntmps43
 go_wp2
 go_loopw [0, 3] (fun m v wr => ∃ (k : Nat) (xs : List Nat), m = .int .i64 k ∧ k ≤ n ∧ Hid (xs ++ Aa k = Aa n) ∧ Own .u8 5 w wr v xs) (fun m _ _ => (intOf m).toNat)
 case atStart => exact ⟨n, [], rfl, Nat.le_refl _, rfl, Own.nil (Below.refl _ _)⟩
 case round =>
  obtain ⟨k, xs, rfl, hk, HE, hown⟩ := hrel;have hl : xs.length < 9 := by
   have h9 := At hn;rw [← HE.out, List.length_append] at h9;have := E0 k;omega
  by_cases hlt : 128 ≤ k
  ·have ha := Xi k (by omega)
   have hu : IntKind.u8.wrap ((k % 128 : Nat) : Int) = ((k % 128 : Nat) : Int) := by rw [IntKind.wrap_u8]; omega
   have ho := Wx (k % 128) (by omega)
   go_wp2_with (at_builtin; go_must (refine Aq Tryz.elemU8w Tryz.underlying31 (hown.alloc _) (Rd.one .u8 _ 5 (y := k % 128 + 128) ?_) rfl rfl rfl rfl (by omega) (by omega) ?_))
   case refine_1 => first | exact ho | (have ho' := ho; simp at ho'; simp [ho'])
   case refine_2 =>
    intro v' w' hown' _ _;clear hown;go_wp2
    go_roundw
    case rel => exact ⟨k / 128, _, by go_num, by omega, by rw [← HE.out, FT (n := k) (by omega), List.append_assoc]; rfl, hown'⟩
    case measure => simp [intOf]; omega
  ·go_wp2_with (at_builtin; go_must (refine Aq Tryz.elemU8w Tryz.underlying31 (hown.alloc _) (Rd.one .u8 _ 5 (y := k) rfl) rfl rfl rfl rfl (by omega) (by omega) ?_; intro v' w' hown' _ _; clear hown))
   go_ret
   exact ⟨v', rfl, by rw [← HE.out, Cx (by omega)]; exact hown'⟩
theorem Nf (z : Int) (w : World) (h1 : -2305843009213693952 ≤ z) (h2 : z ≤ 2305843009213693952) :
  Calls Tryz.prog 46 #[.int .i64 z] w (MO .u8 5 w (Aa (zig z))) := by
 by_cases hs : 0 ≤ z
 ·obtain ⟨m, rfl⟩ := Int.eq_ofNat_of_zero_le hs
  have hz : zig (m : Int) = 2 * m := by unfold zig; rw [if_pos hs]; omega
  rw [hz]; clear hz;go_enter Tryz.func46, Tryz.ntmps46
  go_wp2_with (go_at_call 43; go_must (refine (FK (2 * m) _ (by omega)).mono ?_; rintro e w' ⟨v, rfl, hown⟩))
  go_ret
  exact ⟨v, rfl, hown⟩
 ·obtain ⟨m, hm⟩ : ∃ m : Nat, (-2 * z - 1) = m := ⟨(-2 * z - 1).toNat, by omega⟩
  have hz : zig z = m := by unfold zig; rw [if_neg hs]; omega
  rw [hz]; clear hz;go_enter Tryz.func46, Tryz.ntmps46
  go_wp2_with (go_at_call 43; go_must (refine (FK m _ (by omega)).mono ?_; rintro e w' ⟨v, rfl, hown⟩))
  go_ret
  exact ⟨v, rfl, hown⟩
theorem MZ (s : ByteArray) (w : World) (hs : s.size ≤ 1000000) : Calls Tryz.prog 45 #[.string s] w (MO .u8 5 w (Aa s.size ++ bytesOf s)) := by
 go_enter Tryz.func45, Tryz.ntmps45
 go_wp2_with (first | (go_at_call 43; go_must (refine (FK s.size _ (by omega)).mono ?_; rintro e w' ⟨v, rfl, hown⟩)) | (at_builtin; refine Bw Tryz.elemU8w Tryz.underlying31 Tryz.underlying9 hown rfl rfl rfl rfl ?_ ?_))
 case refine_1 => have := At (n := s.size) (by omega); omega
 case refine_2 =>
  intro v1 w1 hown1 _;clear hown;go_wp2
  go_ret
  exact ⟨v1, rfl, hown1⟩
section
variable {I : WInv} {c : Bool} {k : Nat}
theorem Kq {N : Nat → Prop} {w w' : World} {xs : List Nat} {t : TypeId} {e : Ending} (h : MO .u8 t w xs e w') : ∃ v, e = .returned v ∧ (tit (bI xs)).sem (Nx N w w') w' G0 v ∧ Below w.heap.size w w' := by
 obtain ⟨v, e1, h1⟩ := h;exact ⟨_, e1, OM h1, h1.2⟩
theorem Fn (n : Nat) (h : n ≤ 4611686018427387904) : Sp Tryz.prog I 43 [ci (n : Int)] (tit (bI (Aa n))) := by
 intro N w vs _ _ hv;rw [Hm hv];exact (FK n w h).mono fun e w' he => Kq he
theorem VA (z : Int) (h : CN z = true) : Sp Tryz.prog I 46 [ci z] (tit (bI (Aa (zig z)))) := by
 intro N w vs _ _ hv;rw [Hm hv];have := C5 h;exact (Nf z w (by omega) (by omega)).mono fun e w' he => Kq he
theorem V7 {xs : List Nat} (hx : B8 xs) (hl : xs.length ≤ 1000000) : Sp Tryz.prog I 45 [cS xs] (tit (bI (Aa xs.length ++ xs))) := by
 intro N w vs _ _ hv;rw [Hm hv];have := MZ (Au xs) w (by rw [AZ]; omega)
 rw [AZ, hx.bo] at this;exact this.mono fun e w' he => Kq he
theorem UR (q : Rat) (hk : k ≤ 1000) (b : Bool) (h : decide (q.den = 1) = b) : Sp Tryz.prog I 95 [fc c k q] (lb b) := by
 have hm : decide (Eh (q.den : Int) 1 = 0) = b := by
  rw [← h]; unfold Eh;by_cases h1 : q.den = 1
  ·rw [h1]; rfl
  ·rw [decide_eq_false h1]
   by_cases h2 : (q.den : Int) < 1
   ·rw [if_pos h2]; rfl
   ·rw [if_neg h2, if_neg (by omega)]; rfl
 cases b with
 | false => exact sr 9 [po ((Bq (I := I) (c := c) (k := k) (p := q) (by omega)).rs (BV (k := k) (q := q)).tv), po (PK (I := I) 1 ⟨by omega, by omega⟩), po (VB (I := I) (k := k) (j := 2) (a := (q.den : Int)) (b := 1) (by omega) (by omega)), pk (Ci 3 (Eh (q.den : Int) 1) 0 false hm)]
 | true => exact sr 9 [po ((Bq (I := I) (c := c) (k := k) (p := q) (by omega)).rs (BV (k := k) (q := q)).tv), po (PK (I := I) 1 ⟨by omega, by omega⟩), po (VB (I := I) (k := k) (j := 2) (a := (q.den : Int)) (b := 1) (by omega) (by omega)), pk (Ci 3 (Eh (q.den : Int) 1) 0 true hm)]
theorem Xy {f : FuncId} {res : TV} {q : Rat} (h : Lq q k → Sp Tryz.prog I f [fc c k q] res) : Sp Tryz.prog I f [fc c k q] res := by
 intro N w vs hI hl hv;have hv' := hv;obtain ⟨v, r, e, h1, h2⟩ := hv';obtain ⟨n, d, a, b, k0, hq, hs⟩ := Qk h1;exact h (by rw [← hq]; exact ⟨EQ a, ES b k0, k0⟩) N w vs hI hl hv
theorem VW (q : Rat) (hk : k ≤ 1000) (hq : Lq q k) : Sp Tryz.prog I 44 [fc c k q] (tS (Bl q)) := by
 have fn := SB (I := I) (Cl (k := k) (z := q.num) (by omega))
 have fd := SB (I := I) (Cl (k := k) (z := (q.den : Int)) (by omega))
 have hk0 := hq.k0;have ln := Ha hq.n;have ld := Ha hq.d;have hi := UR (I := I) (c := true) (k := k) q hk (decide (q.den = 1)) rfl;unfold Bl;by_cases h : q.den = 1
 ·rw [if_pos h]
  rw [decide_eq_true h] at hi;exact sr 18 [po ((Bq (I := I) (c := c) (k := k) (p := q) (by omega)).rs (BV (k := k) (q := q)).tv), po (Sp.wk (args' := [.ag [.b (.it (IP (kP k q.num))), .b (.it (IP (kP k (q.den : Int))))]]) (hi) ⟨(Tq (by omega)), trivial⟩), po (fn)]
 ·rw [if_neg h, ← List.append_assoc]
  rw [decide_eq_false h] at hi;exact sr 18 [po ((Bq (I := I) (c := c) (k := k) (p := q) (by omega)).rs (BV (k := k) (q := q)).tv), po (Sp.wk (args' := [.ag [.b (.it (IP (kP k q.num))), .b (.it (IP (kP k (q.den : Int))))]]) (hi) ⟨(Tq (by omega)), trivial⟩), po (fn), pk (Fo 9 (BK q.num) [47] (by simp; omega)), po (fd), pk (Fo 9 (BK q.num ++ [47]) (BK (q.den : Int)) (by simp; omega))]
end
section
variable {I : WInv} {c : Bool} {k : Nat}
theorem X6 (x : Nat) (hx : x < 256) : AO Tryz.prog (.conv 3 5) [li (x : Int)] (BS (.int .u8 (x : Int))) := Bn (vs := [.int .i64 (x : Int)]) fun w => by
 have h : IntKind.u8.wrap (x : Int) = (x : Int) := by rw [IntKind.wrap_u8]; omega
 have h1 : (underlying 3).run Tryz.prog w = .ok (.int .i64) w := AB (by kernel_rfl) w
 have h2 : (underlying 5).run Tryz.prog w = .ok (.int .u8) w := AB (by kernel_rfl) w
 simp [OpK.run, convert, h1, h2, Conv.intToInt, h]
def ust (n : Nat) : Go.Proofs.YtdgbealknnmkoaaGreatDoor.St := ⟨[(0, .i (n : Int)), (3, .cv (.one (.z)))], [], 50⟩
theorem JY (n : Nat) (h : n < 128) : SpN Tryz.prog I 43 [ci (n : Int)] none (bbx (Aa n)) := by
 have lo : Cr Tryz.prog I 20 (CJ Tryz.prog 43 0) (ust n) (.exit 0) (ust n) := Dx (fun h => by cases h) (fun _ => ust n) 0 (fun i hi => absurd hi (by omega)) (rr [pk (MK 3 (n : Int) 128)])
 have h1 : SpN Tryz.prog I 43 [ci (n : Int)] none ⟨5, some (1, 1), [.b (.lit (.int .u8 (n : Int)))]⟩ := sn 20 54 [pl (lo), pk (X6 n (by omega)), ⟨.ap 0 1 1, ⟨by omega, by simp [maxLen]⟩⟩] rfl
 rw [Cx h];exact h1
theorem AC (n : Int) (b : Bool) (h : Dp n = b) : Sp Tryz.prog I 40 [ci n] (lb b) := by
 unfold Dp at h;by_cases h1 : 0 ≤ n
 ·by_cases h2 : n ≤ 1099511627776
  ·rw [decide_eq_true h1, decide_eq_true h2] at h; subst h
   exact sr 9 [pk (Jm 3 n 0), pk (Py 3 n 1099511627776)]
  ·rw [decide_eq_true h1, decide_eq_false h2] at h; subst h
   exact sr 9 [pk (Jm 3 n 0), pk (Pz 3 n 1099511627776)]
 ·rw [decide_eq_false h1] at h; subst h
  exact sr 9 [pk (MK 3 n 0)]
theorem U9 {n : Nat} {q : Rat} (hn : n ≤ 1099511627776) (s : List Nat) (hs8 : B8 s) (hf : Sp Tryz.prog I 44 [fc c k q] (tS s)) : (s.length ≤ 400 → Sp Tryz.prog I 14 [chK c k ⟨1, (n : Int), q, 0, 0, 0⟩] (.tu [.t (bI (Aa 1 ++ Aa n ++ (Aa s.length ++ s))), ci 0]) ∧ SpN Tryz.prog I 14 [chK c k ⟨1, (n : Int), q, 0, 0, 0⟩] (some [ci 0]) (bbx (Aa 1 ++ Aa n ++ (Aa s.length ++ s)))) ∧ (400 < s.length → Sp Tryz.prog I 14 [chK c k ⟨1, (n : Int), q, 0, 0, 0⟩] (.tu [.one (.z), ci 10])) := by
 have hn' : n ≤ 4611686018427387904 := by omega
 have h1 := At (n := 1) (by omega)
 have h2 := At hn';have hn1 := AC (I := I) (n : Int) true (by simp [Dp]; omega)
 have hn2 := AC (I := I) 0 true rfl;have hn3 := hn2;have hc := GP (I := I) 0;rw [show CN 0 = true from rfl] at hc;constructor
 ·intro hl
  have h3 := At (n := s.length) (by omega)
  constructor
  ·exact sr 115 [pa, pa, pa, pa, po (hn1), pa, po (hn2), pa, po (hn3), pa, po (hc), pa, pa, pa, pa, pa, pa, pa, pon (JY 1 (by omega)), po (Fn n hn'), ⟨.src 1 (bI (Aa n)) ((Aa n).map Ad).length ((Aa n).map Ad).flatten, BT AU (AM _)⟩, ⟨.ap ((Aa 1).length) (((Aa n).map Ad).length) 1, ⟨by simp; omega, by simp [maxLen]; omega⟩⟩, po (hf), pk (AI 9 3 s), pk (Av 3 (s.length : Int) 400), po (V7 hs8 (by omega)), ⟨.src 1 (bI (Aa s.length ++ s)) ((Aa s.length ++ s).map Ad).length ((Aa s.length ++ s).map Ad).flatten, BT AU (AM _)⟩, ⟨.ap ((Aa 1).length + ((Aa n).map Ad).length) (((Aa s.length ++ s).map Ad).length) 1, ⟨by simp; omega, by simp [maxLen]; omega⟩⟩, pm ((show Leads I _ ⟨[(7, .s 103), (3, .i 0)], [(103, some ⟨5, some (1, (Aa 1).length + ((Aa n).map Ad).length + ((Aa s.length ++ s).map Ad).length), ((Am ((Aa 1).map Ad)) ++ (((Aa n).map Ad).flatten.map It.b)) ++ (((Aa s.length ++ s).map Ad).flatten.map It.b)⟩)], 105⟩ ⟨[(7, .s 103), (3, .i 0)], [(103, some ⟨5, some (1, (Aa 1 ++ Aa n ++ (Aa s.length ++ s)).length), Am ((Aa 1 ++ Aa n ++ (Aa s.length ++ s)).map Ad)⟩)], 105⟩ from Bj [] ⟨rfl, TVle.refl, rfl, TVle.refl, trivial⟩ ⟨rfl, rfl, (congrArg (fun m => some (1, m)) (show (Aa 1).length + ((Aa n).map Ad).length + ((Aa s.length ++ s).map Ad).length = (Aa 1 ++ Aa n ++ (Aa s.length ++ s)).length by simp only [List.length_append, List.length_map] <;> omega)), ILe.eq (show ((Am ((Aa 1).map Ad)) ++ (((Aa n).map Ad).flatten.map It.b)) ++ (((Aa s.length ++ s).map Ad).flatten.map It.b) = Am ((Aa 1 ++ Aa n ++ (Aa s.length ++ s)).map Ad) from by simp [Am]), trivial⟩ (hnp := ⟨fun _ => BN (BN (As _) (As _)) (As _), trivial⟩))), pm (AY (I := I) (t := 7) (k := 103) (E := [(3, .i 0)]) (B := []) (nx := 105) (T := 5) (sz := 1) (n := ((Aa 1 ++ Aa n ++ (Aa s.length ++ s)).length)) ((Aa 1 ++ Aa n ++ (Aa s.length ++ s)).map Ad) rfl (by simp) AU rfl)]
  ·exact sn 115 103 [pa, pa, pa, pa, po (hn1), pa, po (hn2), pa, po (hn3), pa, po (hc), pa, pa, pa, pa, pa, pa, pa, pon (JY 1 (by omega)), po (Fn n hn'), ⟨.src 1 (bI (Aa n)) ((Aa n).map Ad).length ((Aa n).map Ad).flatten, BT AU (AM _)⟩, ⟨.ap ((Aa 1).length) (((Aa n).map Ad).length) 1, ⟨by simp; omega, by simp [maxLen]; omega⟩⟩, po (hf), pk (AI 9 3 s), pk (Av 3 (s.length : Int) 400), po (V7 hs8 (by omega)), ⟨.src 1 (bI (Aa s.length ++ s)) ((Aa s.length ++ s).map Ad).length ((Aa s.length ++ s).map Ad).flatten, BT AU (AM _)⟩, ⟨.ap ((Aa 1).length + ((Aa n).map Ad).length) (((Aa s.length ++ s).map Ad).length) 1, ⟨by simp; omega, by simp [maxLen]; omega⟩⟩, pm ((show Leads I _ ⟨[(7, .s 103), (3, .i 0)], [(103, some ⟨5, some (1, (Aa 1).length + ((Aa n).map Ad).length + ((Aa s.length ++ s).map Ad).length), ((Am ((Aa 1).map Ad)) ++ (((Aa n).map Ad).flatten.map It.b)) ++ (((Aa s.length ++ s).map Ad).flatten.map It.b)⟩)], 105⟩ ⟨[(7, .s 103), (3, .i 0)], [(103, some ⟨5, some (1, (Aa 1 ++ Aa n ++ (Aa s.length ++ s)).length), Am ((Aa 1 ++ Aa n ++ (Aa s.length ++ s)).map Ad)⟩)], 105⟩ from Bj [] ⟨rfl, TVle.refl, rfl, TVle.refl, trivial⟩ ⟨rfl, rfl, (congrArg (fun m => some (1, m)) (show (Aa 1).length + ((Aa n).map Ad).length + ((Aa s.length ++ s).map Ad).length = (Aa 1 ++ Aa n ++ (Aa s.length ++ s)).length by simp only [List.length_append, List.length_map] <;> omega)), ILe.eq (show ((Am ((Aa 1).map Ad)) ++ (((Aa n).map Ad).flatten.map It.b)) ++ (((Aa s.length ++ s).map Ad).flatten.map It.b) = Am ((Aa 1 ++ Aa n ++ (Aa s.length ++ s)).map Ad) from by simp [Am]), trivial⟩ (hnp := ⟨fun _ => BN (BN (As _) (As _)) (As _), trivial⟩)))] (As _)
 ·intro hl
  exact sr 115 [pa, pa, pa, pa, po (hn1), pa, po (hn2), pa, po (hn3), pa, po (hc), pa, pa, pa, pa, pa, pa, pa, pon (JY 1 (by omega)), po (Fn n hn'), ⟨.src 1 (bI (Aa n)) ((Aa n).map Ad).length ((Aa n).map Ad).flatten, BT AU (AM _)⟩, ⟨.ap ((Aa 1).length) (((Aa n).map Ad).length) 1, ⟨by simp; omega, by simp [maxLen]; omega⟩⟩, po (hf), pk (AI 9 3 s), pk (Dd 3 (s.length : Int) 400)]
theorem U8 {n a b : Nat} {q : Rat} (hn : n ≤ 1099511627776) (ha : a ≤ 1099511627776) (hb : b ≤ 1099511627776) (hsg : Sp Tryz.prog I 42 [fc c k q] (li 0)) : Sp Tryz.prog I 14 [chK c k ⟨2, (n : Int), q, (a : Int), (b : Int), 0⟩] (.tu [.t (bI (Aa 2 ++ Aa n ++ Aa a ++ Aa b)), ci 0]) ∧ SpN Tryz.prog I 14 [chK c k ⟨2, (n : Int), q, (a : Int), (b : Int), 0⟩] (some [ci 0]) (bbx (Aa 2 ++ Aa n ++ Aa a ++ Aa b)) := by
 have hn' : n ≤ 4611686018427387904 := by omega
 have ha' : a ≤ 4611686018427387904 := by omega
 have hb' : b ≤ 4611686018427387904 := by omega
 have h1 := At (n := 2) (by omega)
 have h2 := At hn';have h3 := At ha';have h4 := At hb';have hn1 := AC (I := I) (n : Int) true (by simp [Dp]; omega)
 have hn2 := AC (I := I) (a : Int) true (by simp [Dp]; omega)
 have hn3 := AC (I := I) (b : Int) true (by simp [Dp]; omega)
 have hc := GP (I := I) 0;rw [show CN 0 = true from rfl] at hc;constructor
 ·exact sr 115 [pa, pa, pa, pa, pa, po (hn1), pa, po (hn2), pa, po (hn3), pa, po (hc), pa, pa, po (hsg), pa, pa, pa, pa, pon (JY 2 (by omega)), po (Fn n hn'), ⟨.src 1 (bI (Aa n)) ((Aa n).map Ad).length ((Aa n).map Ad).flatten, BT AU (AM _)⟩, ⟨.ap ((Aa 2).length) (((Aa n).map Ad).length) 1, ⟨by simp; omega, by simp [maxLen]; omega⟩⟩, po (Fn a ha'), ⟨.src 1 (bI (Aa a)) ((Aa a).map Ad).length ((Aa a).map Ad).flatten, BT AU (AM _)⟩, ⟨.ap ((Aa 2).length + ((Aa n).map Ad).length) (((Aa a).map Ad).length) 1, ⟨by simp; omega, by simp [maxLen]; omega⟩⟩, po (Fn b hb'), ⟨.src 1 (bI (Aa b)) ((Aa b).map Ad).length ((Aa b).map Ad).flatten, BT AU (AM _)⟩, ⟨.ap ((Aa 2).length + ((Aa n).map Ad).length + ((Aa a).map Ad).length) (((Aa b).map Ad).length) 1, ⟨by simp; omega, by simp [maxLen]; omega⟩⟩, pm ((show Leads I _ ⟨[(7, .s 103), (3, .i 0)], [(103, some ⟨5, some (1, (Aa 2).length + ((Aa n).map Ad).length + ((Aa a).map Ad).length + ((Aa b).map Ad).length), (((Am ((Aa 2).map Ad)) ++ (((Aa n).map Ad).flatten.map It.b)) ++ (((Aa a).map Ad).flatten.map It.b)) ++ (((Aa b).map Ad).flatten.map It.b)⟩)], 105⟩ ⟨[(7, .s 103), (3, .i 0)], [(103, some ⟨5, some (1, (Aa 2 ++ Aa n ++ Aa a ++ Aa b).length), Am ((Aa 2 ++ Aa n ++ Aa a ++ Aa b).map Ad)⟩)], 105⟩ from Bj [] ⟨rfl, TVle.refl, rfl, TVle.refl, trivial⟩ ⟨rfl, rfl, (congrArg (fun m => some (1, m)) (show (Aa 2).length + ((Aa n).map Ad).length + ((Aa a).map Ad).length + ((Aa b).map Ad).length = (Aa 2 ++ Aa n ++ Aa a ++ Aa b).length by simp only [List.length_append, List.length_map] <;> omega)), ILe.eq (show (((Am ((Aa 2).map Ad)) ++ (((Aa n).map Ad).flatten.map It.b)) ++ (((Aa a).map Ad).flatten.map It.b)) ++ (((Aa b).map Ad).flatten.map It.b) = Am ((Aa 2 ++ Aa n ++ Aa a ++ Aa b).map Ad) from by simp [Am]), trivial⟩ (hnp := ⟨fun _ => BN (BN (BN (As _) (As _)) (As _)) (As _), trivial⟩))), pm (AY (I := I) (t := 7) (k := 103) (E := [(3, .i 0)]) (B := []) (nx := 105) (T := 5) (sz := 1) (n := ((Aa 2 ++ Aa n ++ Aa a ++ Aa b).length)) ((Aa 2 ++ Aa n ++ Aa a ++ Aa b).map Ad) rfl (by simp) AU rfl)]
 ·exact sn 115 103 [pa, pa, pa, pa, pa, po (hn1), pa, po (hn2), pa, po (hn3), pa, po (hc), pa, pa, po (hsg), pa, pa, pa, pa, pon (JY 2 (by omega)), po (Fn n hn'), ⟨.src 1 (bI (Aa n)) ((Aa n).map Ad).length ((Aa n).map Ad).flatten, BT AU (AM _)⟩, ⟨.ap ((Aa 2).length) (((Aa n).map Ad).length) 1, ⟨by simp; omega, by simp [maxLen]; omega⟩⟩, po (Fn a ha'), ⟨.src 1 (bI (Aa a)) ((Aa a).map Ad).length ((Aa a).map Ad).flatten, BT AU (AM _)⟩, ⟨.ap ((Aa 2).length + ((Aa n).map Ad).length) (((Aa a).map Ad).length) 1, ⟨by simp; omega, by simp [maxLen]; omega⟩⟩, po (Fn b hb'), ⟨.src 1 (bI (Aa b)) ((Aa b).map Ad).length ((Aa b).map Ad).flatten, BT AU (AM _)⟩, ⟨.ap ((Aa 2).length + ((Aa n).map Ad).length + ((Aa a).map Ad).length) (((Aa b).map Ad).length) 1, ⟨by simp; omega, by simp [maxLen]; omega⟩⟩, pm ((show Leads I _ ⟨[(7, .s 103), (3, .i 0)], [(103, some ⟨5, some (1, (Aa 2).length + ((Aa n).map Ad).length + ((Aa a).map Ad).length + ((Aa b).map Ad).length), (((Am ((Aa 2).map Ad)) ++ (((Aa n).map Ad).flatten.map It.b)) ++ (((Aa a).map Ad).flatten.map It.b)) ++ (((Aa b).map Ad).flatten.map It.b)⟩)], 105⟩ ⟨[(7, .s 103), (3, .i 0)], [(103, some ⟨5, some (1, (Aa 2 ++ Aa n ++ Aa a ++ Aa b).length), Am ((Aa 2 ++ Aa n ++ Aa a ++ Aa b).map Ad)⟩)], 105⟩ from Bj [] ⟨rfl, TVle.refl, rfl, TVle.refl, trivial⟩ ⟨rfl, rfl, (congrArg (fun m => some (1, m)) (show (Aa 2).length + ((Aa n).map Ad).length + ((Aa a).map Ad).length + ((Aa b).map Ad).length = (Aa 2 ++ Aa n ++ Aa a ++ Aa b).length by simp only [List.length_append, List.length_map] <;> omega)), ILe.eq (show (((Am ((Aa 2).map Ad)) ++ (((Aa n).map Ad).flatten.map It.b)) ++ (((Aa a).map Ad).flatten.map It.b)) ++ (((Aa b).map Ad).flatten.map It.b) = Am ((Aa 2 ++ Aa n ++ Aa a ++ Aa b).map Ad) from by simp [Am]), trivial⟩ (hnp := ⟨fun _ => BN (BN (BN (As _) (As _)) (As _)) (As _), trivial⟩)))] (As _)
theorem U7 {n : Nat} {z : Int} {q : Rat} (hn : n = 0) (hz : CN z = true) (hsg : Sp Tryz.prog I 42 [fc c k q] (li 0)) : Sp Tryz.prog I 14 [chK c k ⟨3, (n : Int), q, 0, 0, z⟩] (.tu [.t (bI (Aa 3 ++ Aa n ++ Aa (zig z))), ci 0]) ∧ SpN Tryz.prog I 14 [chK c k ⟨3, (n : Int), q, 0, 0, z⟩] (some [ci 0]) (bbx (Aa 3 ++ Aa n ++ Aa (zig z))) := by
 have hn' : n ≤ 4611686018427387904 := by omega
 have h1 := At (n := 3) (by omega)
 have h2 := At hn';have hcz := C5 hz;have h3 := At (Hq z (by omega) (by omega))
 have hn1 := AC (I := I) (n : Int) true (by simp [Dp]; omega)
 have hn2 := AC (I := I) 0 true rfl;have hn3 := hn2;have hc := GP (I := I) z;rw [hz] at hc;constructor
 ·exact sr 115 [pa, pa, pa, pa, pa, pa, po (hn1), pa, po (hn2), pa, po (hn3), pa, po (hc), pa, pk (Aw 3 (n : Int) 0), pa, po (hsg), pa, pa, pa, pa, pa, pon (JY 3 (by omega)), po (Fn n hn'), ⟨.src 1 (bI (Aa n)) ((Aa n).map Ad).length ((Aa n).map Ad).flatten, BT AU (AM _)⟩, ⟨.ap ((Aa 3).length) (((Aa n).map Ad).length) 1, ⟨by simp; omega, by simp [maxLen]; omega⟩⟩, po (VA z hz), ⟨.src 1 (bI (Aa (zig z))) ((Aa (zig z)).map Ad).length ((Aa (zig z)).map Ad).flatten, BT AU (AM _)⟩, ⟨.ap ((Aa 3).length + ((Aa n).map Ad).length) (((Aa (zig z)).map Ad).length) 1, ⟨by simp; omega, by simp [maxLen]; omega⟩⟩, pm ((show Leads I _ ⟨[(7, .s 99), (3, .i 0)], [(99, some ⟨5, some (1, (Aa 3).length + ((Aa n).map Ad).length + ((Aa (zig z)).map Ad).length), ((Am ((Aa 3).map Ad)) ++ (((Aa n).map Ad).flatten.map It.b)) ++ (((Aa (zig z)).map Ad).flatten.map It.b)⟩)], 101⟩ ⟨[(7, .s 99), (3, .i 0)], [(99, some ⟨5, some (1, (Aa 3 ++ Aa n ++ Aa (zig z)).length), Am ((Aa 3 ++ Aa n ++ Aa (zig z)).map Ad)⟩)], 101⟩ from Bj [] ⟨rfl, TVle.refl, rfl, TVle.refl, trivial⟩ ⟨rfl, rfl, (congrArg (fun m => some (1, m)) (show (Aa 3).length + ((Aa n).map Ad).length + ((Aa (zig z)).map Ad).length = (Aa 3 ++ Aa n ++ Aa (zig z)).length by simp only [List.length_append, List.length_map] <;> omega)), ILe.eq (show ((Am ((Aa 3).map Ad)) ++ (((Aa n).map Ad).flatten.map It.b)) ++ (((Aa (zig z)).map Ad).flatten.map It.b) = Am ((Aa 3 ++ Aa n ++ Aa (zig z)).map Ad) from by simp [Am]), trivial⟩ (hnp := ⟨fun _ => BN (BN (As _) (As _)) (As _), trivial⟩))), pm (AY (I := I) (t := 7) (k := 99) (E := [(3, .i 0)]) (B := []) (nx := 101) (T := 5) (sz := 1) (n := ((Aa 3 ++ Aa n ++ Aa (zig z)).length)) ((Aa 3 ++ Aa n ++ Aa (zig z)).map Ad) rfl (by simp) AU rfl)]
 ·exact sn 115 99 [pa, pa, pa, pa, pa, pa, po (hn1), pa, po (hn2), pa, po (hn3), pa, po (hc), pa, pk (Aw 3 (n : Int) 0), pa, po (hsg), pa, pa, pa, pa, pa, pon (JY 3 (by omega)), po (Fn n hn'), ⟨.src 1 (bI (Aa n)) ((Aa n).map Ad).length ((Aa n).map Ad).flatten, BT AU (AM _)⟩, ⟨.ap ((Aa 3).length) (((Aa n).map Ad).length) 1, ⟨by simp; omega, by simp [maxLen]; omega⟩⟩, po (VA z hz), ⟨.src 1 (bI (Aa (zig z))) ((Aa (zig z)).map Ad).length ((Aa (zig z)).map Ad).flatten, BT AU (AM _)⟩, ⟨.ap ((Aa 3).length + ((Aa n).map Ad).length) (((Aa (zig z)).map Ad).length) 1, ⟨by simp; omega, by simp [maxLen]; omega⟩⟩, pm ((show Leads I _ ⟨[(7, .s 99), (3, .i 0)], [(99, some ⟨5, some (1, (Aa 3).length + ((Aa n).map Ad).length + ((Aa (zig z)).map Ad).length), ((Am ((Aa 3).map Ad)) ++ (((Aa n).map Ad).flatten.map It.b)) ++ (((Aa (zig z)).map Ad).flatten.map It.b)⟩)], 101⟩ ⟨[(7, .s 99), (3, .i 0)], [(99, some ⟨5, some (1, (Aa 3 ++ Aa n ++ Aa (zig z)).length), Am ((Aa 3 ++ Aa n ++ Aa (zig z)).map Ad)⟩)], 101⟩ from Bj [] ⟨rfl, TVle.refl, rfl, TVle.refl, trivial⟩ ⟨rfl, rfl, (congrArg (fun m => some (1, m)) (show (Aa 3).length + ((Aa n).map Ad).length + ((Aa (zig z)).map Ad).length = (Aa 3 ++ Aa n ++ Aa (zig z)).length by simp only [List.length_append, List.length_map] <;> omega)), ILe.eq (show ((Am ((Aa 3).map Ad)) ++ (((Aa n).map Ad).flatten.map It.b)) ++ (((Aa (zig z)).map Ad).flatten.map It.b) = Am ((Aa 3 ++ Aa n ++ Aa (zig z)).map Ad) from by simp [Am]), trivial⟩ (hnp := ⟨fun _ => BN (BN (As _) (As _)) (As _), trivial⟩)))] (As _)
set_option maxRecDepth 100000 in
theorem PM (x : Ch) (hk : k ≤ 262144) (hw : AP x = false) : Sp Tryz.prog I 14 [chK c k x] (.tu [.one (.z), ci 5]) := by
 have hc := GP (I := I) x.cost;by_cases hk1 : x.kind = 1
 ·cases h1 : Dp x.node with
  | false => exact sr 115 [pk (An 3 x.kind 1), pk (Ae 3 x.kind 2), pk (Ae 3 x.kind 3), pa, po (AC x.node false h1), pa]
  | true =>
   cases h2 : Dp x.fst with
   | false => exact sr 115 [pk (An 3 x.kind 1), pk (Ae 3 x.kind 2), pk (Ae 3 x.kind 3), pa, po (AC x.node true h1), pa, po (AC x.fst false h2), pa]
   | true =>
    cases h3 : Dp x.nxt with
    | false => exact sr 115 [pk (An 3 x.kind 1), pk (Ae 3 x.kind 2), pk (Ae 3 x.kind 3), pa, po (AC x.node true h1), pa, po (AC x.fst true h2), pa, po (AC x.nxt false h3), pa]
    | true =>
     cases h4 : CN x.cost with
     | false => rw [h4] at hc; exact sr 115 [pk (An 3 x.kind 1), pk (Ae 3 x.kind 2), pk (Ae 3 x.kind 3), pa, po (AC x.node true h1), pa, po (AC x.fst true h2), pa, po (AC x.nxt true h3), pa, po (hc), pa]
     | true =>
      rw [h4] at hc;by_cases g6 : x.fst ≠ 0
      ·exact sr 115 [pk (An 3 x.kind 1), pk (Ae 3 x.kind 2), pk (Ae 3 x.kind 3), pa, po (AC x.node true h1), pa, po (AC x.fst true h2), pa, po (AC x.nxt true h3), pa, po (hc), pa, pa, pa, pk (AG 3 x.fst 0)]
      ·by_cases g7 : x.nxt ≠ 0
       ·exact sr 115 [pk (An 3 x.kind 1), pk (Ae 3 x.kind 2), pk (Ae 3 x.kind 3), pa, po (AC x.node true h1), pa, po (AC x.fst true h2), pa, po (AC x.nxt true h3), pa, po (hc), pa, pa, pa, pk (Aw 3 x.fst 0), pk (AG 3 x.nxt 0)]
       ·by_cases g8 : x.cost ≠ 0
        ·exact sr 115 [pk (An 3 x.kind 1), pk (Ae 3 x.kind 2), pk (Ae 3 x.kind 3), pa, po (AC x.node true h1), pa, po (AC x.fst true h2), pa, po (AC x.nxt true h3), pa, po (hc), pa, pa, pa, pk (Aw 3 x.fst 0), pk (Aw 3 x.nxt 0), pa, pk (AG 3 x.cost 0)]
        ·exfalso
         simp only [Decidable.not_not] at g6 g7 g8;revert hw; unfold AP; simp [h1, h2, h3, h4, g6, g7, g8, hk1] <;> decide
 by_cases hk2 : x.kind = 2
 ·cases h1 : Dp x.node with
  | false => exact sr 115 [pk (Ae 3 x.kind 1), pk (An 3 x.kind 2), pk (Ae 3 x.kind 3), pa, pa, po (AC x.node false h1), pa]
  | true =>
   cases h2 : Dp x.fst with
   | false => exact sr 115 [pk (Ae 3 x.kind 1), pk (An 3 x.kind 2), pk (Ae 3 x.kind 3), pa, pa, po (AC x.node true h1), pa, po (AC x.fst false h2), pa]
   | true =>
    cases h3 : Dp x.nxt with
    | false => exact sr 115 [pk (Ae 3 x.kind 1), pk (An 3 x.kind 2), pk (Ae 3 x.kind 3), pa, pa, po (AC x.node true h1), pa, po (AC x.fst true h2), pa, po (AC x.nxt false h3), pa]
    | true =>
     cases h4 : CN x.cost with
     | false => rw [h4] at hc; exact sr 115 [pk (Ae 3 x.kind 1), pk (An 3 x.kind 2), pk (Ae 3 x.kind 3), pa, pa, po (AC x.node true h1), pa, po (AC x.fst true h2), pa, po (AC x.nxt true h3), pa, po (hc), pa]
     | true =>
      rw [h4] at hc;by_cases g5 : x.q.num.sign ≠ 0
      ·exact sr 115 [pk (Ae 3 x.kind 1), pk (An 3 x.kind 2), pk (Ae 3 x.kind 3), pa, pa, po (AC x.node true h1), pa, po (AC x.fst true h2), pa, po (AC x.nxt true h3), pa, po (hc), pa, pa, po (DR (c := c) (k := k) (p := x.q) hk), pk (AG 3 x.q.num.sign 0)]
      ·by_cases g8 : x.cost ≠ 0
       ·exact sr 115 [pk (Ae 3 x.kind 1), pk (An 3 x.kind 2), pk (Ae 3 x.kind 3), pa, pa, po (AC x.node true h1), pa, po (AC x.fst true h2), pa, po (AC x.nxt true h3), pa, po (hc), pa, pa, po (DR (c := c) (k := k) (p := x.q) hk), pk (Aw 3 x.q.num.sign 0), pa, pa, pk (AG 3 x.cost 0)]
       ·exfalso
        simp only [Decidable.not_not] at g5 g8;revert hw; unfold AP; simp [h1, h2, h3, h4, g5, g8, hk2] <;> decide
 by_cases hk3 : x.kind = 3
 ·cases h1 : Dp x.node with
  | false => exact sr 115 [pk (Ae 3 x.kind 1), pk (Ae 3 x.kind 2), pk (An 3 x.kind 3), pa, pa, pa, po (AC x.node false h1), pa]
  | true =>
   cases h2 : Dp x.fst with
   | false => exact sr 115 [pk (Ae 3 x.kind 1), pk (Ae 3 x.kind 2), pk (An 3 x.kind 3), pa, pa, pa, po (AC x.node true h1), pa, po (AC x.fst false h2), pa]
   | true =>
    cases h3 : Dp x.nxt with
    | false => exact sr 115 [pk (Ae 3 x.kind 1), pk (Ae 3 x.kind 2), pk (An 3 x.kind 3), pa, pa, pa, po (AC x.node true h1), pa, po (AC x.fst true h2), pa, po (AC x.nxt false h3), pa]
    | true =>
     cases h4 : CN x.cost with
     | false => rw [h4] at hc; exact sr 115 [pk (Ae 3 x.kind 1), pk (Ae 3 x.kind 2), pk (An 3 x.kind 3), pa, pa, pa, po (AC x.node true h1), pa, po (AC x.fst true h2), pa, po (AC x.nxt true h3), pa, po (hc), pa]
     | true =>
      rw [h4] at hc;by_cases g4 : x.node ≠ 0
      ·exact sr 115 [pk (Ae 3 x.kind 1), pk (Ae 3 x.kind 2), pk (An 3 x.kind 3), pa, pa, pa, po (AC x.node true h1), pa, po (AC x.fst true h2), pa, po (AC x.nxt true h3), pa, po (hc), pa, pk (AG 3 x.node 0)]
      ·by_cases g5 : x.q.num.sign ≠ 0
       ·exact sr 115 [pk (Ae 3 x.kind 1), pk (Ae 3 x.kind 2), pk (An 3 x.kind 3), pa, pa, pa, po (AC x.node true h1), pa, po (AC x.fst true h2), pa, po (AC x.nxt true h3), pa, po (hc), pa, pk (Aw 3 x.node 0), pa, po (DR (c := c) (k := k) (p := x.q) hk), pk (AG 3 x.q.num.sign 0)]
       ·by_cases g6 : x.fst ≠ 0
        ·exact sr 115 [pk (Ae 3 x.kind 1), pk (Ae 3 x.kind 2), pk (An 3 x.kind 3), pa, pa, pa, po (AC x.node true h1), pa, po (AC x.fst true h2), pa, po (AC x.nxt true h3), pa, po (hc), pa, pk (Aw 3 x.node 0), pa, po (DR (c := c) (k := k) (p := x.q) hk), pk (Aw 3 x.q.num.sign 0), pa, pk (AG 3 x.fst 0)]
        ·by_cases g7 : x.nxt ≠ 0
         ·exact sr 115 [pk (Ae 3 x.kind 1), pk (Ae 3 x.kind 2), pk (An 3 x.kind 3), pa, pa, pa, po (AC x.node true h1), pa, po (AC x.fst true h2), pa, po (AC x.nxt true h3), pa, po (hc), pa, pk (Aw 3 x.node 0), pa, po (DR (c := c) (k := k) (p := x.q) hk), pk (Aw 3 x.q.num.sign 0), pa, pk (Aw 3 x.fst 0), pk (AG 3 x.nxt 0)]
         ·exfalso
          simp only [Decidable.not_not] at g4 g5 g6 g7;revert hw; unfold AP; simp [h1, h2, h3, h4, g4, g5, g6, g7, hk3] <;> decide
 exact sr 115 [pk (Ae 3 x.kind 1), pk (Ae 3 x.kind 2), pk (Ae 3 x.kind 3), pa, pa, pa]
theorem JK (x : Ch) (hk : k ≤ 1000) : Sp Tryz.prog I 14 [chK c k x] (.tu [.t (bI (AT x).1), ci (AT x).2]) ∧ (((AT x).2 = 0 ∧ SpN Tryz.prog I 14 [chK c k x] (some [ci 0]) (bbx (AT x).1)) ∨ ((AT x).2 ≠ 0 ∧ (AT x).1 = [] ∧ Sp Tryz.prog I 14 [chK c k x] (.tu [.one (.z), ci (AT x).2]))) := by
 unfold AT;cases hb : AP x with
 | false =>
  rw [if_pos rfl];exact ⟨ST (PM x (by omega) hb), .inr ⟨by decide, rfl, PM x (by omega) hb⟩⟩
 | true =>
  rw [if_neg (by decide)]
  obtain ⟨n, hn, e1, h⟩ := JU hb;obtain ⟨kind, node, q, fst, nxt, cost⟩ := x;simp only at e1 h;subst e1;rcases h with ⟨rfl, rfl, rfl, rfl⟩ | ⟨rfl, hs, rfl, a, b, ha, hb', rfl, rfl⟩ | ⟨rfl, hs, rfl, rfl, h0, hz⟩
  ·obtain ⟨p1, p2⟩ := U9 (I := I) hn (Bl q) (GZ q) (Xy (fun h => VW (c := c) q hk h))
   by_cases hl : 400 < (Bl q).length
   ·rw [if_pos ⟨rfl, hl⟩]
    exact ⟨ST (p2 hl), .inr ⟨by decide, rfl, p2 hl⟩⟩
   ·rw [if_neg (fun h => hl h.2)]
    exact ⟨(p1 (by omega)).1, .inl ⟨rfl, (p1 (by omega)).2⟩⟩
  ·rw [if_neg (fun h => by cases h.1)]
   have sg := DR (I := I) (c := c) (k := k) (p := q) (by omega)
   rw [hs] at sg;have := U8 hn ha hb' sg;rw [List.append_assoc] at this;exact ⟨this.1, .inl ⟨rfl, this.2⟩⟩
  ·rw [if_neg (fun h => by cases h.1)]
   have sg := DR (I := I) (c := c) (k := k) (p := q) (by omega)
   rw [hs] at sg;have := U7 h0 hz sg;exact ⟨this.1, .inl ⟨rfl, this.2⟩⟩
end
def FZ (r : Nat × Nat × Nat) (w : World) (e : Ending) (w' : World) : Prop := e = .returned (.tuple #[.int .i64 (r.1 : Int), .int .i64 (r.2.1 : Int), .bool (decide (r.2.2 = 0))]) ∧ w = w'
set_option maxRecDepth 100000 in
theorem Mj {A : Option Addr} {n c B : Nat} {xs : List Nat} (w : World) (hr : Rd .u8 w B A n xs) (hx : ∀ x ∈ xs, x < 256) (hn : n ≤ 9223372036854775807) :
  Calls Tryz.prog 57 #[.slice A n c] w (FZ (AJ xs) w) := by
 have HX := Lib.hid hx;have HL := Lib.hid hr.len;clear hx;go_enter Tryz.func57, Tryz.ntmps57
 go_wp2
 go_loop [5, 6] (fun m i => ∃ k t : Nat, k ≤ 9 ∧ i = .int .i64 k ∧ k ≤ n ∧ m = .int .u64 t ∧ t < 2 ^ (7 * k) ∧ Hid (BP (9 - k) (xs.drop k) k t = AJ xs)) (fun _ i => 9 - (intOf i).toNat)
 case atStart => exact ⟨0, 0, by omega, rfl, by omega, rfl, by omega, rfl⟩
 case round =>
  obtain ⟨k, t, hk, rfl, hkn, rfl, ht, HE⟩ := hrel;have HT := Lib.hid ht;clear ht;by_cases hlt : k < n
  ·by_cases h9 : k < 9
   ·obtain ⟨b, off, rfl, hbB, hc⟩ := hr.at_ hlt
    have hy := DX xs k 256 HX.out (by omega)
    have hd := Bk xs k (by rw [HL.out]; exact hlt)
    rw [hd, show 9 - k = (9 - (k + 1)) + 1 by omega] at HE
    clear hd;generalize xs.getD k 0 = y at *;have M' := Lib.hid (Db (9 - (k + 1)) y k t (xs.drop (k + 1)));have B' := Lib.hid (FV (9 - (k + 1)) y k t (xs.drop (k + 1)));have G' := Lib.hid (DI (9 - (k + 1)) y k t (xs.drop (k + 1)));obtain ⟨z, p, q, e1, hz, _, e3, _, e4, hq, hg, hqe⟩ := LS y t k hy h9 HT.out;rw [← hqe] at M' B' G';have HG := Lib.hid hg;clear hg hqe;by_cases ha : 128 ≤ y
    ·go_wp2
     go_round
     case rel => exact ⟨k + 1, q, by omega, by go_num, by omega, rfl, HG.out, (M'.out ha).symm.trans HE.out⟩
     case measure => simp [intOf]; omega
    ·by_cases hb : y = 0 ∧ 0 < k
     ·have HB := Lib.hid hb
      have hb0 : ((y : Int) == 0) = true := by simp [hb.1]
      have hk0 : 0 < k := hb.2;clear hb;have fin : FZ (AJ xs) w (.returned (.tuple #[.int .i64 0, .int .i64 0, .bool false])) w := by
       rw [← HE.out, B'.out (by omega) (.inl HB.out)]
       exact ⟨rfl, rfl⟩
      have FIN := Lib.hid fin;clear fin;go_wp2
      go_ret3
      exact FIN.out
     ·have HB := Lib.hid hb
      by_cases hq2 : 4611686018427387904 < q
      ·have fin : FZ (AJ xs) w (.returned (.tuple #[.int .i64 0, .int .i64 0, .bool false])) w := by
        rw [← HE.out, B'.out (by omega) (.inr hq2)]
        exact ⟨rfl, rfl⟩
       have FIN := Lib.hid fin;clear fin hb;by_cases hk0 : 0 < k
       ·have hb0 : ((y : Int) == 0) = false := by
         have : y ≠ 0 := fun h => HB.out ⟨h, hk0⟩
         simp [this]
        go_wp2
        go_ret3
        exact FIN.out
       ·go_wp2
        go_ret3
        exact FIN.out
      ·have fin : FZ (AJ xs) w (.returned (.tuple #[.int .i64 q, .int .i64 ((k + 1 : Nat) : Int), .bool true])) w := by
        rw [← HE.out, G'.out (by omega) (by rintro (h | h); exact HB.out h; exact hq2 h)]
        exact ⟨rfl, rfl⟩
       have FIN := Lib.hid fin;clear fin hb;by_cases hk0 : 0 < k
       ·have hb0 : ((y : Int) == 0) = false := by
         have : y ≠ 0 := fun h => HB.out ⟨h, hk0⟩
         simp [this]
        go_wp2
        go_ret3
        exact FIN.out
       ·go_wp2
        go_ret3
        exact FIN.out
   ·have fin : FZ (AJ xs) w (.returned (.tuple #[.int .i64 0, .int .i64 0, .bool false])) w := by
     rw [← HE.out, show 9 - k = 0 by omega]
     exact ⟨rfl, rfl⟩
    have FIN := Lib.hid fin;clear fin;go_wp2
    go_ret3
    exact FIN.out
  ·have fin : FZ (AJ xs) w (.returned (.tuple #[.int .i64 0, .int .i64 0, .bool false])) w := by
    rw [← HE.out, List.drop_eq_nil_of_le (by rw [HL.out]; omega)]
    by_cases h9 : k = 9
    ·rw [show 9 - k = 0 by omega]; exact ⟨rfl, rfl⟩
    ·rw [show 9 - k = (9 - (k + 1)) + 1 by omega, LT]; exact ⟨rfl, rfl⟩
   have FIN := Lib.hid fin;clear fin;go_wp2
   go_ret3
   exact FIN.out
section
variable {I : WInv} {c : Bool} {k : Nat}
theorem BX {xs : List Nat} (hx : B8 xs) : Sp Tryz.prog I 57 [.t (bI xs)] (.tu [ci ((AJ xs).1 : Nat), ci ((AJ xs).2.1 : Nat), cb (decide ((AJ xs).2.2 = 0))]) := by
 intro N w vs _ hN hv;obtain ⟨v, r, rfl, h, h'⟩ := hv;have h' : r = [] := h';subst h';obtain ⟨A, c, e1, h1, h2, h3⟩ := LZ h;injection e1 with e1;subst e1;refine (Mj w h1 hx (by omega)).mono fun e w' ⟨he, hw⟩ => ?_
 subst he hw;exact ⟨_, rfl, ⟨_, rfl, _, _, rfl, rfl, _, _, rfl, rfl, _, _, rfl, rfl, rfl⟩, Below.refl _ _⟩
theorem Sj {xs ys : List Nat} (b : Bool) (h : decide (xs = ys) = b) (hx : B8 xs) (hy : B8 ys) : Sp Tryz.prog I 59 [.t (bI xs), .t (bI ys)] (lb b) :=
 sr 10 [pk (GB xs), pk (GB ys), pk (RW 9 xs ys b h hx hy)]
end
def Fj (l : List Nat) : Int := l.foldl (fun (a : Int) (c : Nat) => a * 10 + ((c : Int) - 48)) 0
theorem DH (l : List Nat) (c : Nat) : Fj (l ++ [c]) = Fj l * 10 + ((c : Int) - 48) := by simp [Fj]
theorem Jg : ∀ (n : Nat) (l : List Nat), l.length = n → okD l → Fj l = (nd l : Nat)
 | 0, l, h, _ => by rw [List.eq_nil_of_length_eq_zero h]; rfl
 | n + 1, l, h, hd => by
  obtain ⟨a, x, rfl⟩ : ∃ a x, l = a ++ [x] := ⟨l.dropLast, l.getLast (by intro h0; rw [h0] at h; simp at h), (List.dropLast_concat_getLast _).symm⟩
  have hx := hd x (by simp)
  rw [DH, JN, Jg n a (by simpa using h) (fun c hc => hd c (by simp [hc]))]
  omega
theorem Oc : ∀ (n : Nat) (l : List Nat), l.length = n → B8 l → (Fj l).natAbs + 23 ≤ 23 * 10 ^ n
 | 0, l, h, _ => by rw [List.eq_nil_of_length_eq_zero h]; simp [Fj]
 | n + 1, l, h, hd => by
  obtain ⟨a, x, rfl⟩ : ∃ a x, l = a ++ [x] := ⟨l.dropLast, l.getLast (by intro h0; rw [h0] at h; simp at h), (List.dropLast_concat_getLast _).symm⟩
  have hx := hd x (by simp)
  have ih := Oc n a (by simpa using h) (fun c hc => hd c (by simp [hc]))
  rw [DH, Nat.pow_succ];omega
theorem SJ {n m X : Nat} (h : n ≤ m) (e : 10 ^ m = X) : 10 ^ n ≤ X := e ▸ Nat.pow_le_pow_right (Nat.succ_pos 9) h
theorem FU {l : List Nat} (h : B8 l) (hl : l.length ≤ 500) : Lim 84 (Fj l) := by
 unfold Lim;have h1 := Oc _ l rfl h;have h3 : l.length + 2 ≤ 800 := by omega
 have hp := OJ;obtain ⟨X, hX⟩ : ∃ X, (10 : Nat) ^ 800 = X := ⟨_, rfl⟩;rw [hX] at hp;have h2 : (10 : Nat) ^ (l.length + 2) ≤ X := SJ h3 hX;clear hX h3;rw [Nat.pow_succ, Nat.pow_succ] at h2;refine Nat.lt_of_le_of_lt ?_ hp;clear hp;generalize (10 : Nat) ^ l.length = Y at *;omega
def dv (s : List Nat) (i : Nat) : Int := if Bd s then Fj ((s.take i).drop 1) else Fj (s.take i)
theorem Vf (s : List Nat) : dv s 0 = 0 := by unfold dv; simp [Fj]
theorem Vh {s : List Nat} (h : Bd s = true) : dv s 1 = dv s 0 := by
 unfold dv;rw [if_pos h, if_pos h];cases s with
 | nil => rfl
 | cons a l => rfl
theorem Vg {s : List Nat} {i : Nat} (hi : i < s.length) (h : ¬ (i = 0 ∧ Bd s = true)) : dv s (i + 1) = dv s i * 10 + ((s.getD i 0 : Nat) - 48 : Int) := by
 have ht : s.take (i + 1) = s.take i ++ [s.getD i 0] := by
  rw [List.take_add_one, List.getD_eq_getElem?_getD, List.getElem?_eq_getElem hi]; rfl
 unfold dv;by_cases hn : Bd s = true
 ·rw [if_pos hn, if_pos hn, ht]
  have h0 : 0 < i := by
   rcases Nat.eq_zero_or_pos i with h0 | h0
   ·exact absurd ⟨h0, hn⟩ h
   ·exact h0
  rw [List.drop_append_of_le_length (by rw [List.length_take]; omega), DH]
 ·rw [if_neg hn, if_neg hn, ht, DH]
theorem Pj {s : List Nat} (h : B8 s) (hl : s.length ≤ 500) (i : Nat) : Lim 84 (dv s i) := by
 unfold dv;split
 ·exact FU ((h.take i).drop 1) (by simp only [List.length_drop, List.length_take]; omega)
 ·exact FU (h.take i) (by simp only [List.length_take]; omega)
def G7 (s : List Nat) : Int := if Bd s then -dv s s.length else dv s s.length
theorem He {s : List Nat} (h : B8 s) (hl : s.length ≤ 500) : Lim 84 (G7 s) := by
 have := Pj h hl s.length;unfold G7;split
 ·exact this.neg
 ·exact this
theorem NV (z : Int) : G7 (BK z) = z := by
 have hd := KS z.natAbs;obtain ⟨n1, n2⟩ := Of hd;unfold BK C8;by_cases h : z < 0
 ·rw [if_pos ⟨decide_eq_true h, by omega⟩]
  have hn : Bd ([45] ++ dec z.natAbs) = true := rfl;have e1 : List.drop 1 ([45] ++ dec z.natAbs) = dec z.natAbs := rfl;unfold G7 dv;rw [if_pos hn, if_pos hn, List.take_length, e1, Jg _ _ rfl hd.2.1, Gy];omega
 ·rw [if_neg (fun h1 => h (of_decide_eq_true h1.1)), List.nil_append]
  unfold G7 dv;rw [n1, if_neg (by decide), if_neg (by decide), List.take_length, Jg _ _ rfl hd.2.1, Gy]
  omega
def NP (s : List Nat) : Rat := match Cv 47 s with
 | some i => (G7 (s.take i) : Rat) / (G7 (s.drop (i + 1)) : Rat)
 | none => (G7 s : Rat)
theorem Tk (q : Rat) : NP (Bl q) = q := by
 unfold NP;by_cases h : q.den = 1
 ·rw [(LL q h).1]
  have e : Bl q = BK q.num := by unfold Bl; rw [if_pos h]
  simp only [e, NV];have := Bf q;rw [h] at this;have e2 : (q.num : Rat) = Rat.divInt q.num ((1 : Nat) : Int) := by rw [Rat.divInt_eq_div]; grind
  rw [e2];exact this
 ·rw [KI q h]
  have e : Bl q = BK q.num ++ ([47] ++ BK (q.den : Int)) := by unfold Bl; rw [if_neg h]
  have e1 : (Bl q).take (BK q.num).length = BK q.num := by rw [e, List.take_left]
  have e2 : (Bl q).drop ((BK q.num).length + 1) = BK (q.den : Int) := by rw [e, ← List.drop_drop, List.drop_left]; rfl
  simp only [e1, e2, NV];rw [← Rat.divInt_eq_div];exact Bf q
theorem UV {s : List Nat} (h : B8 s) (hl : s.length ≤ 400) : Lq (NP s) 84 := by
 unfold NP;split
 ·rename_i i hi
  rw [← Rat.divInt_eq_div];exact ⟨EQ (He (h.take i) (by rw [List.length_take]; omega)), ES (He (h.drop (i + 1)) (by rw [List.length_drop]; omega)) (by omega), by omega⟩
 ·exact Lq.int (He h (by omega)) (by omega)
section
variable {I : WInv} {c c' : Bool} {k j : Nat} {p q : Rat}
theorem Ud : Sp Tryz.prog I 151 [fc c 100 p, fc c' 100 q] (tfc true 201 (p + q)) := by
 have e := PQ (a := p.num) (b := (p.den : Int)) (c := q.num) (d := (q.den : Int)) (by have := p.den_pos; omega) (by have := q.den_pos; omega)
 rw [Bf, Bf] at e;rw [← e];exact sr 26 [po ((Bq (I := I) (c := c) (k := 100) (p := p) (by omega)).rs (BV (k := 100) (q := p)).tv), po ((Bq (I := I) (c := c') (k := 100) (p := q) (by omega)).rs (BV (k := 100) (q := q)).tv), po (DT (I := I) (k := 100) (j := 100) (a := p.num) (b := (q.den : Int)) (by omega)), po (DT (I := I) (k := 100) (j := 100) (a := q.num) (b := (p.den : Int)) (by omega)), po (VC (I := I) (k := 200) (j := 200) (m := 201) (a := p.num * (q.den : Int)) (b := q.num * (p.den : Int)) (by omega) (by omega) (by omega)), po (DT (I := I) (k := 100) (j := 100) (a := (p.den : Int)) (b := (q.den : Int)) (by omega)), po (Gw (I := I) (k := 201) (j := 200) (m := 201) (a := (p.num * (q.den : Int)) + (q.num * (p.den : Int))) (b := (p.den : Int) * (q.den : Int)) (by omega) (by omega) (by omega) (by omega))]
theorem WD : Sp Tryz.prog I 125 [fc c 100 p, fc c' 100 q] (tfc true 200 (p * q)) := by
 have e := PN p.num p.den q.num q.den;rw [Bf, Bf] at e;rw [← e];exact sr 20 [po ((Bq (I := I) (c := c) (k := 100) (p := p) (by omega)).rs (BV (k := 100) (q := p)).tv), po ((Bq (I := I) (c := c') (k := 100) (p := q) (by omega)).rs (BV (k := 100) (q := q)).tv), po (DT (I := I) (k := 100) (j := 100) (a := p.num) (b := q.num) (by omega)), po (DT (I := I) (k := 100) (j := 100) (a := (p.den : Int)) (b := (q.den : Int)) (by omega)), po (Gw (I := I) (k := 200) (j := 200) (m := 200) (a := p.num * q.num) (b := (p.den : Int) * (q.den : Int)) (by omega) (by omega) (by omega) (by omega))]
theorem WU : Sp Tryz.prog I 68 [fc c 100 p, fc c' 100 q] (tfc true 200 (p / q)) := by
 have e := PP p.num p.den q.num q.den;rw [Bf, Bf] at e;rw [← e];exact sr 20 [po ((Bq (I := I) (c := c) (k := 100) (p := p) (by omega)).rs (BV (k := 100) (q := p)).tv), po ((Bq (I := I) (c := c') (k := 100) (p := q) (by omega)).rs (BV (k := 100) (q := q)).tv), po (DT (I := I) (k := 100) (j := 100) (a := p.num) (b := (q.den : Int)) (by omega)), po (DT (I := I) (k := 100) (j := 100) (a := (p.den : Int)) (b := q.num) (by omega)), po (Gw (I := I) (k := 200) (j := 200) (m := 200) (a := p.num * (q.den : Int)) (b := (p.den : Int) * q.num) (by omega) (by omega) (by omega) (by omega))]
theorem VZ : Sp Tryz.prog I 117 [fc c 100 p, fc c' 100 q] (tfc true 201 (p - q)) := by
 rw [show p - q = p + -q by grind]
 exact sr 9 [po (SU (I := I) (c := c') (k := 100) (p := q) (by omega)), po (Ud (I := I) (c := c) (c' := true) (p := p) (q := -q))]
theorem WY : Sp Tryz.prog I 74 [fc c 100 p, fc c' 100 q] (li (Pt p q)) := by
 rw [← Ux];exact sr 9 [po (VZ (I := I) (c := c) (c' := c') (p := p) (q := q)), po (DR (I := I) (c := true) (k := 201) (p := p - q) (by omega))]
theorem Ql {q' : Rat} (h : Lq q j) (e : q' = q) : CTle (fc true k q') (fc true j q) := by
 subst e;exact fun N w g v hv => Jf h N w g v (Ts N w g v hv)
theorem Xx {v : Int} (h : Lim 84 (v * 10)) : Sp Tryz.prog I 125 [fc true 84 (v : Rat), fc true 2 ((10 : Int) : Rat)] (tfc true 84 ((v * 10 : Int) : Rat)) :=
 ((WD (c := true) (c' := true) (p := (v : Rat)) (q := ((10 : Int) : Rat))).wk (args' := [fc true 84 (v : Rat), fc true 2 ((10 : Int) : Rat)]) ⟨FA (by omega), FA (by omega), trivial⟩).rs (Ql (Lq.int h (by omega)) (Rat.intCast_mul v 10).symm).tv
theorem XP {v d : Int} (h : Lim 84 (v + d)) : Sp Tryz.prog I 151 [fc true 84 (v : Rat), fc true 2 (d : Rat)] (tfc true 84 ((v + d : Int) : Rat)) :=
 ((Ud (c := true) (c' := true) (p := (v : Rat)) (q := (d : Rat))).wk (args' := [fc true 84 (v : Rat), fc true 2 (d : Rat)]) ⟨FA (by omega), FA (by omega), trivial⟩).rs (Ql (Lq.int h (by omega)) (Rat.intCast_add v d).symm).tv
end
theorem Tw {s : List Nat} (h : B8 s) (hl : s.length ≤ 400) (i : Nat) : Lim 84 (dv s i * 10) := by
 have h48 : B8 [48] := fun x hx => by simp at hx; omega
 have e : ∀ l : List Nat, Fj l * 10 = Fj (l ++ [48]) := fun l => by rw [DH]; omega
 unfold dv;split
 ·rw [e]; exact FU (((h.take i).drop 1).app h48) (by simp only [List.length_append, List.length_drop, List.length_take, List.length_singleton]; omega)
 ·rw [e]; exact FU ((h.take i).app h48) (by simp only [List.length_append, List.length_take, List.length_singleton]; omega)
section
variable {I : WInv} {c c' : Bool} {k j : Nat} {p q : Rat}
theorem VN (x : Nat) (hx : x < 256) : AO Tryz.prog (.conv 5 3) [BS (.int .u8 (x : Int))] (li (x : Int)) := Bn (vs := [.int .u8 (x : Int)]) fun w => by
 have h1 : (underlying 3).run Tryz.prog w = .ok (.int .i64) w := AB (by kernel_rfl) w
 have h2 : (underlying 5).run Tryz.prog w = .ok (.int .u8) w := AB (by kernel_rfl) w
 simp [OpK.run, convert, h1, h2, Conv.intToInt, IntWalk.i64_in (x : Int) ⟨by omega, by omega⟩]
def dcs (s : List Nat) (i v : Int) : Go.Proofs.YtdgbealknnmkoaaGreatDoor.St := ⟨[(0, .cv (.one (.b (.lit (.string (Au s)))))), (2, .p 0 0), (3, .p 2 0), (4, .i i)], [(0, some ⟨26, none, [.o false, .z, .o false, .z]⟩), (2, some ⟨26, none, [.b (.it (fF true 84 (v : Rat)))]⟩)], 50⟩
theorem MI {s : List Nat} (hs : B8 s) (hl : s.length ≤ 400) : Cr Tryz.prog I 41 (CJ Tryz.prog 109 0) (dcs s ((0 : Nat) : Int) (dv s 0)) (.exit 0) (dcs s ((s.length : Nat) : Int) (dv s s.length)) := by
 refine Dx (P := Tryz.prog) (I := I) (nt := 41) (c := CJ Tryz.prog 109 0) (ex := .exit 0) (fun h => by cases h) (fun i => dcs s (i : Int) (dv s i)) s.length (fun i hi => ?_) ?_
 ·have hb := hs.getD i
  by_cases h : i = 0 ∧ Bd s = true
  ·obtain ⟨h0, hn⟩ := h
   have e := Vh hn;have h45 : decide (((s.getD i 0 : Nat) : Int) = 45) = true := by
    rw [h0]; unfold Bd at hn; simp at hn ⊢; omega
   have e2 : dv s (i + 1) = dv s i := by rw [h0]; exact e
   rw [e2];generalize dv s i = v;exact rr [pk (AI 9 3 s), pk (Ce 3 (i : Int) ((s.length : Nat) : Int)), pk (An 3 (i : Int) 0), pk (CE 9 s i _ rfl hi hs), pk (GD 5 ((s.getD i 0 : Nat) : Int) 45 true h45), pk (Bi 3 (i : Int) 1 ⟨by omega, by omega⟩)]
  ·have e := Vg hi h
   have l1 := Pj hs (by omega) i
   have l2 := Pj hs (by omega) (i + 1)
   have l3 := Tw hs (by omega) i
   rw [e] at l2 ⊢;generalize dv s i = v at *;have hm := Xx (I := I) l3;have ha := XP (I := I) l2;by_cases h0 : i = 0
   ·have h45 : decide (((s.getD i 0 : Nat) : Int) = 45) = false := by
     refine decide_eq_false fun h1 => h ⟨h0, ?_⟩
     rw [h0] at h1;unfold Bd;have : s.getD 0 0 = 45 := by omega
     rw [this]; rfl
    exact rr [pk (AI 9 3 s), pk (Ce 3 (i : Int) ((s.length : Nat) : Int)), pk (An 3 (i : Int) 0), pk (CE 9 s i _ rfl hi hs), pk (GD 5 ((s.getD i 0 : Nat) : Int) 45 false h45), po ((G3 (I := I) 10 ⟨by omega, by omega⟩)), po (hm), pk (CE 9 s i _ rfl hi hs), pk (VN (s.getD i 0) hb), pk (Ou 3 ((s.getD i 0 : Nat) : Int) 48 ⟨by omega, by omega⟩), po ((G3 (I := I) (((s.getD i 0 : Nat) : Int) - 48) ⟨by omega, by omega⟩)), po (ha), pk (Bi 3 (i : Int) 1 ⟨by omega, by omega⟩)]
   ·exact rr [pk (AI 9 3 s), pk (Ce 3 (i : Int) ((s.length : Nat) : Int)), pk (Ae 3 (i : Int) 0), po ((G3 (I := I) 10 ⟨by omega, by omega⟩)), po (hm), pk (CE 9 s i _ rfl hi hs), pk (VN (s.getD i 0) hb), pk (Ou 3 ((s.getD i 0 : Nat) : Int) 48 ⟨by omega, by omega⟩), po ((G3 (I := I) (((s.getD i 0 : Nat) : Int) - 48) ⟨by omega, by omega⟩)), po (ha), pk (Bi 3 (i : Int) 1 ⟨by omega, by omega⟩)]
 ·generalize dv s s.length = v
  exact rr [pk (AI 9 3 s), pk (AF 3 ((s.length : Nat) : Int) ((s.length : Nat) : Int))]
theorem Jh {s : List Nat} (hs : B8 s) (hl : s.length ≤ 400) : Sp Tryz.prog I 109 [cS s] (tfc true 84 ((G7 s : Int) : Rat)) := by
 have lo := MI (I := I) hs hl;have i0 : Sp Tryz.prog I 69 [ci 0] (tfc true 84 ((dv s 0 : Int) : Rat)) := by
  rw [Vf];exact (G3 (I := I) 0 ⟨by omega, by omega⟩).rs (FA (by omega)).tv
 have lv := He hs (by omega)
 unfold G7 at lv ⊢;generalize hv : dv s s.length = v at *;by_cases h0 : 0 < s.length
 ·by_cases hn : Bd s = true
  ·rw [if_pos hn] at lv ⊢
   have h45 : decide (((s.getD 0 0 : Nat) : Int) = 45) = true := by unfold Bd at hn; simp at hn ⊢; omega
   have hng : Sp Tryz.prog I 152 [fc true 84 (v : Rat)] (tfc true 84 ((-v : Int) : Rat)) := by
    have := SU (I := I) (c := true) (k := 84) (p := (v : Rat)) (by omega)
    rwa [← Rat.intCast_neg] at this
   exact sr 41 [po (i0), pl (lo), pk (AI 9 3 s), pk (Dd 3 ((s.length : Nat) : Int) 0), pk (CE 9 s 0 _ rfl h0 hs), pk (GD 5 ((s.getD 0 0 : Nat) : Int) 45 true h45), po (hng)]
  ·rw [if_neg hn] at lv ⊢
   have h45 : decide (((s.getD 0 0 : Nat) : Int) = 45) = false := by
    refine decide_eq_false fun h1 => hn ?_
    unfold Bd;have : s.getD 0 0 = 45 := by omega
    rw [this]; rfl
   exact sr 41 [po (i0), pl (lo), pk (AI 9 3 s), pk (Dd 3 ((s.length : Nat) : Int) 0), pk (CE 9 s 0 _ rfl h0 hs), pk (GD 5 ((s.getD 0 0 : Nat) : Int) 45 false h45)]
 ·have hn : ¬ Bd s = true := fun h => by
   rw [List.eq_nil_of_length_eq_zero (by omega : s.length = 0)] at h
   cases h
  rw [if_neg hn] at lv ⊢;exact sr 41 [po (i0), pl (lo), pk (AI 9 3 s), pk (Av 3 ((s.length : Nat) : Int) 0)]
end
section
variable {I : WInv} {c c' : Bool} {k j : Nat} {p q : Rat}
def fcs (s : List Nat) (i a : Int) : Go.Proofs.YtdgbealknnmkoaaGreatDoor.St := ⟨[(0, .cv (.one (.b (.lit (.string (Au s)))))), (2, .p 0 0), (3, .i a), (4, .i i)], [(0, some ⟨26, none, [.o false, .z, .o false, .z]⟩)], 50⟩
theorem MF {s : List Nat} {i : Nat} (hs : B8 s) (hl : s.length ≤ 400) (hx : Cv 47 s = some i) : Cr Tryz.prog I 35 (CJ Tryz.prog 58 0) (fcs s ((0 : Nat) : Int) ((s.length : Nat) : Int)) (.exit 0) (fcs s (i : Int) (i : Int)) := by
 obtain ⟨h1, h2, h3⟩ := FS hx;refine Dx (P := Tryz.prog) (I := I) (nt := 35) (c := CJ Tryz.prog 58 0) (ex := .exit 0) (fun h => by cases h) (fun i => fcs s (i : Int) ((s.length : Nat) : Int)) i (fun j hj => ?_) ?_
 ·have h47 : decide (((s.getD j 0 : Nat) : Int) = 47) = false := decide_eq_false fun h => h3 j hj (by omega)
  have hi : j < s.length := by omega
  clear h1 h2 h3 hx hj;revert j;intro i h47 hi;exact rr [pk (AI 9 3 s), pk (Ce 3 (i : Int) ((s.length : Nat) : Int)), pk (CE 9 s i _ rfl hi hs), pk (GD 5 ((s.getD i 0 : Nat) : Int) 47 false h47), pk (Bi 3 (i : Int) 1 ⟨by omega, by omega⟩)]
 ·have hi := h1
  have h47 : decide (((s.getD i 0 : Nat) : Int) = 47) = true := decide_eq_true (by omega)
  exact rr [pk (AI 9 3 s), pk (Ce 3 (i : Int) ((s.length : Nat) : Int)), pk (CE 9 s i _ rfl hi hs), pk (GD 5 ((s.getD i 0 : Nat) : Int) 47 true h47)]
theorem Lj {s : List Nat} (hs : B8 s) (hl : s.length ≤ 400) (hx : Cv 47 s = none) : Cr Tryz.prog I 35 (CJ Tryz.prog 58 0) (fcs s ((0 : Nat) : Int) ((s.length : Nat) : Int)) (.exit 0) (fcs s ((s.length : Nat) : Int) ((s.length : Nat) : Int)) := by
 have h3 := LH hx;refine Dx (P := Tryz.prog) (I := I) (nt := 35) (c := CJ Tryz.prog 58 0) (ex := .exit 0) (fun h => by cases h) (fun i => fcs s (i : Int) ((s.length : Nat) : Int)) s.length (fun i hi => ?_) ?_
 ·have h47 : decide (((s.getD i 0 : Nat) : Int) = 47) = false := decide_eq_false fun h => h3 i hi (by omega)
  exact rr [pk (AI 9 3 s), pk (Ce 3 (i : Int) ((s.length : Nat) : Int)), pk (CE 9 s i _ rfl hi hs), pk (GD 5 ((s.getD i 0 : Nat) : Int) 47 false h47), pk (Bi 3 (i : Int) 1 ⟨by omega, by omega⟩)]
 ·exact rr [pk (AI 9 3 s), pk (AF 3 ((s.length : Nat) : Int) ((s.length : Nat) : Int))]
theorem KH {s : List Nat} (hs : B8 s) (hl : s.length ≤ 400) : Sp Tryz.prog I 58 [cS s] (tfc true 84 (NP s)) := by
 have hq := UV hs hl;unfold NP at hq ⊢;cases hx : Cv 47 s with
 | some i =>
  rw [hx] at hq;simp only at hq ⊢;obtain ⟨h1, h2, h3⟩ := FS hx;have hd1 := Jh (I := I) (hs.take i) (by rw [List.length_take]; omega)
  have hd2 := Jh (I := I) (hs.drop (i + 1)) (by rw [List.length_drop]; omega)
  have lo := MF (I := I) hs hl hx;generalize ((G7 (s.take i) : Int) : Rat) = a at *;generalize ((G7 (s.drop (i + 1)) : Int) : Rat) = b at *;have hv : Sp Tryz.prog I 68 [fc true 84 a, fc true 84 b] (tfc true 84 (a / b)) := ((WU (c := true) (c' := true) (p := a) (q := b)).wk (args' := [fc true 84 a, fc true 84 b]) ⟨FA (by omega), FA (by omega), trivial⟩).rs (Ql hq rfl).tv
  exact sr 35 [pk (AI 9 3 s), pl (lo), pk (PD 9 s i _ rfl (by omega)), po (hd1), pk (AI 9 3 s), pk (Ce 3 (i : Int) ((s.length : Nat) : Int)), pk (Bi 3 (i : Int) 1 ⟨by omega, by omega⟩), pk (Uq 9 s (i + 1) _ rfl (by omega)), po (hd2), po (hv)]
 | none =>
  simp only;have hd1 := Jh (I := I) (hs.take s.length) (by rw [List.length_take]; omega)
  have lo := Lj (I := I) hs hl hx;rw [show G7 (s.take s.length) = G7 s by rw [List.take_length]] at hd1
  generalize ((G7 s : Int) : Rat) = a at *;exact sr 35 [pk (AI 9 3 s), pl (lo), pk (PD 9 s s.length _ rfl (by omega)), po (hd1), pk (AI 9 3 s), pk (AF 3 ((s.length : Nat) : Int) ((s.length : Nat) : Int))]
end
theorem Uh (k : Nat) (hk : 0 < k) (rest : List It) : ILe (zl ++ rest) (.b (.it (fF false k 0)) :: rest) := by
 intro N w g l h;obtain ⟨l1, r1, e1, h1, l2, r2, e2, h2, l3, r3, e3, h3, l4, r4, e4, h4, h5⟩ := h;have h1 : l1 = [_] := h1;have h2 : l2 = [_] := h2;have h3 : l3 = [_] := h3;have h4 : l4 = [_] := h4;subst h1 h2 h3 h4 e4 e3 e2 e1;exact ⟨[.bool false, .slice none 0 0, .bool false, .slice none 0 0], r4, rfl, ⟨0, 0, [.bool false, .slice none 0 0], [.bool false, .slice none 0 0], rfl, ML N w, ML N w, by rw [JT]; rfl, hk, fun h => by cases h⟩, h5⟩
abbrev chL (k n a b z : Int) : CT := .ag [.i k, .i n, .o false, .z, .o false, .z, .i a, .i b, .i z]
theorem Pw (j : Nat) (hj : 0 < j) (k n a b z : Int) : CTle (chL k n a b z) (chK false j ⟨k, n, 0, a, b, z⟩) :=
 (ILe.cons XLe.refl (ILe.cons XLe.refl (Uh j hj _))).ag
section
variable {I : WInv}
theorem Sv {bs : List Nat} (hl : bs.length ≤ 2000000) {k : Int} {u : Nat} (hT1 : Sp Tryz.prog I 57 [.t (bI bs)] (.tu [ci k, ci (u : Int), cb false])) : Sp Tryz.prog I 18 [.t (bI bs)] (.tu [chZ, ci 2]) :=
 sr 123 [po (hT1), pa]
theorem Su {bs : List Nat} (hl : bs.length ≤ 2000000) {k : Int} {u : Nat} (hT1 : Sp Tryz.prog I 57 [.t (bI bs)] (.tu [ci k, ci (u : Int), cb true])) (hk : k < 1) : Sp Tryz.prog I 18 [.t (bI bs)] (.tu [chZ, ci 2]) :=
 sr 123 [po (hT1), pa, pk (Ce 3 k 1)]
theorem Ss {bs : List Nat} (hl : bs.length ≤ 2000000) {k : Int} {u : Nat} (hT1 : Sp Tryz.prog I 57 [.t (bI bs)] (.tu [ci k, ci (u : Int), cb true])) (hk1 : ¬ k < 1) (hk : 3 < k) : Sp Tryz.prog I 18 [.t (bI bs)] (.tu [chZ, ci 2]) :=
 sr 123 [po (hT1), pa, pk (AF 3 k 1), pk (Dd 3 k 3)]
theorem Sr {bs : List Nat} (hl : bs.length ≤ 2000000) {k : Int} {u : Nat} (hT1 : Sp Tryz.prog I 57 [.t (bI bs)] (.tu [ci k, ci (u : Int), cb true])) (hk1 : ¬ k < 1) (hk3 : ¬ 3 < k) {n : Int} {v : Nat} (hu : u ≤ bs.length) (hT2 : Sp Tryz.prog I 57 [.t (bI (bs.drop u))] (.tu [ci n, ci (v : Int), cb false])) : Sp Tryz.prog I 18 [.t (bI bs)] (.tu [chZ, ci 2]) :=
 sr 123 [po (hT1), pa, pk (AF 3 k 1), pk (Av 3 k 3), pk (Ay bs u _ rfl hu), po (hT2), pa]
theorem Sq {bs : List Nat} (hl : bs.length ≤ 2000000) {k : Int} {u : Nat} (hT1 : Sp Tryz.prog I 57 [.t (bI bs)] (.tu [ci k, ci (u : Int), cb true])) (hk1 : ¬ k < 1) (hk3 : ¬ 3 < k) {n : Int} {v : Nat} (hu : u ≤ bs.length) (hT2 : Sp Tryz.prog I 57 [.t (bI (bs.drop u))] (.tu [ci n, ci (v : Int), cb true])) {a w : Nat} (ha : a ≤ 4611686018427387904) (huv : u + v ≤ bs.length) (hT3 : Sp Tryz.prog I 57 [.t (bI (bs.drop (u + v)))] (.tu [ci (a : Int), ci (w : Int), cb false])) : Sp Tryz.prog I 18 [.t (bI bs)] (.tu [chZ, ci 2]) :=
 sr 123 [po (hT1), pa, pk (AF 3 k 1), pk (Av 3 k 3), pk (Ay bs u _ rfl hu), po (hT2), pa, pk (Bi 3 (u : Int) (v : Int) ⟨by omega, by omega⟩), pk (Ay bs (u + v) _ rfl huv), po (hT3), pa]
theorem So {bs : List Nat} (hl : bs.length ≤ 2000000) {k : Int} {u : Nat} (hT1 : Sp Tryz.prog I 57 [.t (bI bs)] (.tu [ci k, ci (u : Int), cb true])) (hk1 : ¬ k < 1) (hk3 : ¬ 3 < k) {n : Int} {v : Nat} (hu : u ≤ bs.length) (hT2 : Sp Tryz.prog I 57 [.t (bI (bs.drop u))] (.tu [ci n, ci (v : Int), cb true])) {a w : Nat} (ha : a ≤ 4611686018427387904) (huv : u + v ≤ bs.length) (hT3 : Sp Tryz.prog I 57 [.t (bI (bs.drop (u + v)))] (.tu [ci (a : Int), ci (w : Int), cb true])) (hw : w ≤ (bs.drop (u + v)).length) (hk : k = 1) {ln : Int} (hln : ln = (((bs.drop (u + v)).drop w).length : Int)) (h6 : ln ≠ (a : Int)) : Sp Tryz.prog I 18 [.t (bI bs)] (.tu [chZ, ci 2]) :=
 sr 123 [po (hT1), pa, pk (AF 3 k 1), pk (Av 3 k 3), pk (Ay bs u _ rfl hu), po (hT2), pa, pk (Bi 3 (u : Int) (v : Int) ⟨by omega, by omega⟩), pk (Ay bs (u + v) _ rfl huv), po (hT3), pa, pk (Ay (bs.drop (u + v)) w _ rfl hw), pk (An 3 k 1), pk (KV ((bs.drop (u + v)).drop w) 3 ln hln), pk (AG 3 ln (a : Int))]
theorem Sn {bs : List Nat} (hl : bs.length ≤ 2000000) {k : Int} {u : Nat} (hT1 : Sp Tryz.prog I 57 [.t (bI bs)] (.tu [ci k, ci (u : Int), cb true])) (hk1 : ¬ k < 1) (hk3 : ¬ 3 < k) {n : Int} {v : Nat} (hu : u ≤ bs.length) (hT2 : Sp Tryz.prog I 57 [.t (bI (bs.drop u))] (.tu [ci n, ci (v : Int), cb true])) {a w : Nat} (ha : a ≤ 4611686018427387904) (huv : u + v ≤ bs.length) (hT3 : Sp Tryz.prog I 57 [.t (bI (bs.drop (u + v)))] (.tu [ci (a : Int), ci (w : Int), cb true])) (hw : w ≤ (bs.drop (u + v)).length) (hk : k = 1) {ln : Int} (hln : ln = (((bs.drop (u + v)).drop w).length : Int)) (h6 : ln = (a : Int)) (h7 : 400 < (a : Int)) : Sp Tryz.prog I 18 [.t (bI bs)] (.tu [chZ, ci 2]) :=
 sr 123 [po (hT1), pa, pk (AF 3 k 1), pk (Av 3 k 3), pk (Ay bs u _ rfl hu), po (hT2), pa, pk (Bi 3 (u : Int) (v : Int) ⟨by omega, by omega⟩), pk (Ay bs (u + v) _ rfl huv), po (hT3), pa, pk (Ay (bs.drop (u + v)) w _ rfl hw), pk (An 3 k 1), pk (KV ((bs.drop (u + v)).drop w) 3 ln hln), pk (Aw 3 ln (a : Int)), pk (Dd 3 (a : Int) 400)]
theorem Sm {bs : List Nat} (hl : bs.length ≤ 2000000) {k : Int} {u : Nat} (hT1 : Sp Tryz.prog I 57 [.t (bI bs)] (.tu [ci k, ci (u : Int), cb true])) (hk1 : ¬ k < 1) (hk3 : ¬ 3 < k) {n : Int} {v : Nat} (hu : u ≤ bs.length) (hT2 : Sp Tryz.prog I 57 [.t (bI (bs.drop u))] (.tu [ci n, ci (v : Int), cb true])) {a w : Nat} (ha : a ≤ 4611686018427387904) (huv : u + v ≤ bs.length) (hT3 : Sp Tryz.prog I 57 [.t (bI (bs.drop (u + v)))] (.tu [ci (a : Int), ci (w : Int), cb true])) (hw : w ≤ (bs.drop (u + v)).length) (hk : k = 2) {c : Int} {w2 : Nat} (hT4 : Sp Tryz.prog I 57 [.t (bI ((bs.drop (u + v)).drop w))] (.tu [ci c, ci (w2 : Int), cb false])) : Sp Tryz.prog I 18 [.t (bI bs)] (.tu [chZ, ci 2]) :=
 sr 123 [po (hT1), pa, pk (AF 3 k 1), pk (Av 3 k 3), pk (Ay bs u _ rfl hu), po (hT2), pa, pk (Bi 3 (u : Int) (v : Int) ⟨by omega, by omega⟩), pk (Ay bs (u + v) _ rfl huv), po (hT3), pa, pk (Ay (bs.drop (u + v)) w _ rfl hw), pk (Ae 3 k 1), pk (An 3 k 2), po (hT4), pa]
theorem S9 {bs : List Nat} (hl : bs.length ≤ 2000000) {k : Int} {u : Nat} (hT1 : Sp Tryz.prog I 57 [.t (bI bs)] (.tu [ci k, ci (u : Int), cb true])) (hk1 : ¬ k < 1) (hk3 : ¬ 3 < k) {n : Int} {v : Nat} (hu : u ≤ bs.length) (hT2 : Sp Tryz.prog I 57 [.t (bI (bs.drop u))] (.tu [ci n, ci (v : Int), cb true])) {a w : Nat} (ha : a ≤ 4611686018427387904) (huv : u + v ≤ bs.length) (hT3 : Sp Tryz.prog I 57 [.t (bI (bs.drop (u + v)))] (.tu [ci (a : Int), ci (w : Int), cb true])) (hw : w ≤ (bs.drop (u + v)).length) (hk : k = 1) {ln : Int} (hln : ln = (((bs.drop (u + v)).drop w).length : Int)) (h6 : ln = (a : Int)) (h7 : ¬ 400 < (a : Int)) {q : Rat} (hF : Sp Tryz.prog I 58 [cS ((bs.drop (u + v)).drop w)] (tfc true 84 q)) {cc : List Nat} {e : Int} (he : e ≠ 0) (hE : Sp Tryz.prog I 14 [chK true 84 ⟨k, n, q, 0, 0, 0⟩] (.tu [.t (bI cc), ci e])) : Sp Tryz.prog I 18 [.t (bI bs)] (.tu [chZ, ci 2]) :=
 sr 123 [po (hT1), pa, pk (AF 3 k 1), pk (Av 3 k 3), pk (Ay bs u _ rfl hu), po (hT2), pa, pk (Bi 3 (u : Int) (v : Int) ⟨by omega, by omega⟩), pk (Ay bs (u + v) _ rfl huv), po (hT3), pa, pk (Ay (bs.drop (u + v)) w _ rfl hw), pk (An 3 k 1), pk (KV ((bs.drop (u + v)).drop w) 3 ln hln), pk (Aw 3 ln (a : Int)), pk (Av 3 (a : Int) 400), pk (GB ((bs.drop (u + v)).drop w)), po (hF), po (hE), pk (AG 32 e 0)]
theorem S8 {bs : List Nat} (hl : bs.length ≤ 2000000) {k : Int} {u : Nat} (hT1 : Sp Tryz.prog I 57 [.t (bI bs)] (.tu [ci k, ci (u : Int), cb true])) (hk1 : ¬ k < 1) (hk3 : ¬ 3 < k) {n : Int} {v : Nat} (hu : u ≤ bs.length) (hT2 : Sp Tryz.prog I 57 [.t (bI (bs.drop u))] (.tu [ci n, ci (v : Int), cb true])) {a w : Nat} (ha : a ≤ 4611686018427387904) (huv : u + v ≤ bs.length) (hT3 : Sp Tryz.prog I 57 [.t (bI (bs.drop (u + v)))] (.tu [ci (a : Int), ci (w : Int), cb true])) (hw : w ≤ (bs.drop (u + v)).length) (hk : k = 1) {ln : Int} (hln : ln = (((bs.drop (u + v)).drop w).length : Int)) (h6 : ln = (a : Int)) (h7 : ¬ 400 < (a : Int)) {q : Rat} (hF : Sp Tryz.prog I 58 [cS ((bs.drop (u + v)).drop w)] (tfc true 84 q)) {cc : List Nat} (hE : Sp Tryz.prog I 14 [chK true 84 ⟨k, n, q, 0, 0, 0⟩] (.tu [.t (bI cc), ci 0])) (hQ : Sp Tryz.prog I 59 [.t (bI cc), .t (bI bs)] (lb false)) : Sp Tryz.prog I 18 [.t (bI bs)] (.tu [chZ, ci 2]) :=
 sr 123 [po (hT1), pa, pk (AF 3 k 1), pk (Av 3 k 3), pk (Ay bs u _ rfl hu), po (hT2), pa, pk (Bi 3 (u : Int) (v : Int) ⟨by omega, by omega⟩), pk (Ay bs (u + v) _ rfl huv), po (hT3), pa, pk (Ay (bs.drop (u + v)) w _ rfl hw), pk (An 3 k 1), pk (KV ((bs.drop (u + v)).drop w) 3 ln hln), pk (Aw 3 ln (a : Int)), pk (Av 3 (a : Int) 400), pk (GB ((bs.drop (u + v)).drop w)), po (hF), po (hE), pa, po (hQ), pa]
theorem S7 {bs : List Nat} (hl : bs.length ≤ 2000000) {k : Int} {u : Nat} (hT1 : Sp Tryz.prog I 57 [.t (bI bs)] (.tu [ci k, ci (u : Int), cb true])) (hk1 : ¬ k < 1) (hk3 : ¬ 3 < k) {n : Int} {v : Nat} (hu : u ≤ bs.length) (hT2 : Sp Tryz.prog I 57 [.t (bI (bs.drop u))] (.tu [ci n, ci (v : Int), cb true])) {a w : Nat} (ha : a ≤ 4611686018427387904) (huv : u + v ≤ bs.length) (hT3 : Sp Tryz.prog I 57 [.t (bI (bs.drop (u + v)))] (.tu [ci (a : Int), ci (w : Int), cb true])) (hw : w ≤ (bs.drop (u + v)).length) (hk : k = 1) {ln : Int} (hln : ln = (((bs.drop (u + v)).drop w).length : Int)) (h6 : ln = (a : Int)) (h7 : ¬ 400 < (a : Int)) {q : Rat} (hF : Sp Tryz.prog I 58 [cS ((bs.drop (u + v)).drop w)] (tfc true 84 q)) {cc : List Nat} (hE : Sp Tryz.prog I 14 [chK true 84 ⟨k, n, q, 0, 0, 0⟩] (.tu [.t (bI cc), ci 0])) (hQ : Sp Tryz.prog I 59 [.t (bI cc), .t (bI bs)] (lb true)) : Sp Tryz.prog I 18 [.t (bI bs)] (.tu [chK true 84 ⟨k, n, q, 0, 0, 0⟩, ci 0]) :=
 sr 123 [po (hT1), pa, pk (AF 3 k 1), pk (Av 3 k 3), pk (Ay bs u _ rfl hu), po (hT2), pa, pk (Bi 3 (u : Int) (v : Int) ⟨by omega, by omega⟩), pk (Ay bs (u + v) _ rfl huv), po (hT3), pa, pk (Ay (bs.drop (u + v)) w _ rfl hw), pk (An 3 k 1), pk (KV ((bs.drop (u + v)).drop w) 3 ln hln), pk (Aw 3 ln (a : Int)), pk (Av 3 (a : Int) 400), pk (GB ((bs.drop (u + v)).drop w)), po (hF), po (hE), pa, po (hQ), pa]
theorem S6 {bs : List Nat} (hl : bs.length ≤ 2000000) {k : Int} {u : Nat} (hT1 : Sp Tryz.prog I 57 [.t (bI bs)] (.tu [ci k, ci (u : Int), cb true])) (hk1 : ¬ k < 1) (hk3 : ¬ 3 < k) {n : Int} {v : Nat} (hu : u ≤ bs.length) (hT2 : Sp Tryz.prog I 57 [.t (bI (bs.drop u))] (.tu [ci n, ci (v : Int), cb true])) {a w : Nat} (ha : a ≤ 4611686018427387904) (huv : u + v ≤ bs.length) (hT3 : Sp Tryz.prog I 57 [.t (bI (bs.drop (u + v)))] (.tu [ci (a : Int), ci (w : Int), cb true])) (hw : w ≤ (bs.drop (u + v)).length) (hk : k = 2) {c : Int} {w2 : Nat} (hT4 : Sp Tryz.prog I 57 [.t (bI ((bs.drop (u + v)).drop w))] (.tu [ci c, ci (w2 : Int), cb true])) {cc : List Nat} {e : Int} (he : e ≠ 0) (hE : Sp Tryz.prog I 14 [chL k n (a : Int) c 0] (.tu [.t (bI cc), ci e])) : Sp Tryz.prog I 18 [.t (bI bs)] (.tu [chZ, ci 2]) :=
 sr 123 [po (hT1), pa, pk (AF 3 k 1), pk (Av 3 k 3), pk (Ay bs u _ rfl hu), po (hT2), pa, pk (Bi 3 (u : Int) (v : Int) ⟨by omega, by omega⟩), pk (Ay bs (u + v) _ rfl huv), po (hT3), pa, pk (Ay (bs.drop (u + v)) w _ rfl hw), pk (Ae 3 k 1), pk (An 3 k 2), po (hT4), pa, po (hE), pk (AG 32 e 0)]
theorem S5 {bs : List Nat} (hl : bs.length ≤ 2000000) {k : Int} {u : Nat} (hT1 : Sp Tryz.prog I 57 [.t (bI bs)] (.tu [ci k, ci (u : Int), cb true])) (hk1 : ¬ k < 1) (hk3 : ¬ 3 < k) {n : Int} {v : Nat} (hu : u ≤ bs.length) (hT2 : Sp Tryz.prog I 57 [.t (bI (bs.drop u))] (.tu [ci n, ci (v : Int), cb true])) {a w : Nat} (ha : a ≤ 4611686018427387904) (huv : u + v ≤ bs.length) (hT3 : Sp Tryz.prog I 57 [.t (bI (bs.drop (u + v)))] (.tu [ci (a : Int), ci (w : Int), cb true])) (hw : w ≤ (bs.drop (u + v)).length) (hk : k = 2) {c : Int} {w2 : Nat} (hT4 : Sp Tryz.prog I 57 [.t (bI ((bs.drop (u + v)).drop w))] (.tu [ci c, ci (w2 : Int), cb true])) {cc : List Nat} (hE : Sp Tryz.prog I 14 [chL k n (a : Int) c 0] (.tu [.t (bI cc), ci 0])) (hQ : Sp Tryz.prog I 59 [.t (bI cc), .t (bI bs)] (lb false)) : Sp Tryz.prog I 18 [.t (bI bs)] (.tu [chZ, ci 2]) :=
 sr 123 [po (hT1), pa, pk (AF 3 k 1), pk (Av 3 k 3), pk (Ay bs u _ rfl hu), po (hT2), pa, pk (Bi 3 (u : Int) (v : Int) ⟨by omega, by omega⟩), pk (Ay bs (u + v) _ rfl huv), po (hT3), pa, pk (Ay (bs.drop (u + v)) w _ rfl hw), pk (Ae 3 k 1), pk (An 3 k 2), po (hT4), pa, po (hE), pa, po (hQ), pa]
theorem S4 {bs : List Nat} (hl : bs.length ≤ 2000000) {k : Int} {u : Nat} (hT1 : Sp Tryz.prog I 57 [.t (bI bs)] (.tu [ci k, ci (u : Int), cb true])) (hk1 : ¬ k < 1) (hk3 : ¬ 3 < k) {n : Int} {v : Nat} (hu : u ≤ bs.length) (hT2 : Sp Tryz.prog I 57 [.t (bI (bs.drop u))] (.tu [ci n, ci (v : Int), cb true])) {a w : Nat} (ha : a ≤ 4611686018427387904) (huv : u + v ≤ bs.length) (hT3 : Sp Tryz.prog I 57 [.t (bI (bs.drop (u + v)))] (.tu [ci (a : Int), ci (w : Int), cb true])) (hw : w ≤ (bs.drop (u + v)).length) (hk : k = 2) {c : Int} {w2 : Nat} (hT4 : Sp Tryz.prog I 57 [.t (bI ((bs.drop (u + v)).drop w))] (.tu [ci c, ci (w2 : Int), cb true])) {cc : List Nat} (hE : Sp Tryz.prog I 14 [chL k n (a : Int) c 0] (.tu [.t (bI cc), ci 0])) (hQ : Sp Tryz.prog I 59 [.t (bI cc), .t (bI bs)] (lb true)) : Sp Tryz.prog I 18 [.t (bI bs)] (.tu [chL k n (a : Int) c 0, ci 0]) :=
 sr 123 [po (hT1), pa, pk (AF 3 k 1), pk (Av 3 k 3), pk (Ay bs u _ rfl hu), po (hT2), pa, pk (Bi 3 (u : Int) (v : Int) ⟨by omega, by omega⟩), pk (Ay bs (u + v) _ rfl huv), po (hT3), pa, pk (Ay (bs.drop (u + v)) w _ rfl hw), pk (Ae 3 k 1), pk (An 3 k 2), po (hT4), pa, po (hE), pa, po (hQ), pa]
theorem S3 {bs : List Nat} (hl : bs.length ≤ 2000000) {k : Int} {u : Nat} (hT1 : Sp Tryz.prog I 57 [.t (bI bs)] (.tu [ci k, ci (u : Int), cb true])) (hk1 : ¬ k < 1) (hk3 : ¬ 3 < k) {n : Int} {v : Nat} (hu : u ≤ bs.length) (hT2 : Sp Tryz.prog I 57 [.t (bI (bs.drop u))] (.tu [ci n, ci (v : Int), cb true])) {a w : Nat} (ha : a ≤ 4611686018427387904) (huv : u + v ≤ bs.length) (hT3 : Sp Tryz.prog I 57 [.t (bI (bs.drop (u + v)))] (.tu [ci (a : Int), ci (w : Int), cb true])) (hw : w ≤ (bs.drop (u + v)).length) (hk : k = 3) {y r : Int} (hy : AO Tryz.prog (.bin .quo 3) [li (a : Int), li 2] (li y)) (hr : AO Tryz.prog (.bin .rem 3) [li (a : Int), li 2] (li r)) (h1 : r ≠ 1) {cc : List Nat} {e : Int} (he : e ≠ 0) (hE : Sp Tryz.prog I 14 [chL k n 0 0 y] (.tu [.t (bI cc), ci e])) : Sp Tryz.prog I 18 [.t (bI bs)] (.tu [chZ, ci 2]) :=
 sr 123 [po (hT1), pa, pk (AF 3 k 1), pk (Av 3 k 3), pk (Ay bs u _ rfl hu), po (hT2), pa, pk (Bi 3 (u : Int) (v : Int) ⟨by omega, by omega⟩), pk (Ay bs (u + v) _ rfl huv), po (hT3), pa, pk (Ay (bs.drop (u + v)) w _ rfl hw), pk (Ae 3 k 1), pk (Ae 3 k 2), pk (hy), pk (hr), pk (Ae 3 r 1), po (hE), pk (AG 32 e 0)]
theorem S0 {bs : List Nat} (hl : bs.length ≤ 2000000) {k : Int} {u : Nat} (hT1 : Sp Tryz.prog I 57 [.t (bI bs)] (.tu [ci k, ci (u : Int), cb true])) (hk1 : ¬ k < 1) (hk3 : ¬ 3 < k) {n : Int} {v : Nat} (hu : u ≤ bs.length) (hT2 : Sp Tryz.prog I 57 [.t (bI (bs.drop u))] (.tu [ci n, ci (v : Int), cb true])) {a w : Nat} (ha : a ≤ 4611686018427387904) (huv : u + v ≤ bs.length) (hT3 : Sp Tryz.prog I 57 [.t (bI (bs.drop (u + v)))] (.tu [ci (a : Int), ci (w : Int), cb true])) (hw : w ≤ (bs.drop (u + v)).length) (hk : k = 3) {y r : Int} (hy : AO Tryz.prog (.bin .quo 3) [li (a : Int), li 2] (li y)) (hr : AO Tryz.prog (.bin .rem 3) [li (a : Int), li 2] (li r)) (h1 : r ≠ 1) {cc : List Nat} (hE : Sp Tryz.prog I 14 [chL k n 0 0 y] (.tu [.t (bI cc), ci 0])) (hQ : Sp Tryz.prog I 59 [.t (bI cc), .t (bI bs)] (lb false)) : Sp Tryz.prog I 18 [.t (bI bs)] (.tu [chZ, ci 2]) :=
 sr 123 [po (hT1), pa, pk (AF 3 k 1), pk (Av 3 k 3), pk (Ay bs u _ rfl hu), po (hT2), pa, pk (Bi 3 (u : Int) (v : Int) ⟨by omega, by omega⟩), pk (Ay bs (u + v) _ rfl huv), po (hT3), pa, pk (Ay (bs.drop (u + v)) w _ rfl hw), pk (Ae 3 k 1), pk (Ae 3 k 2), pk (hy), pk (hr), pk (Ae 3 r 1), po (hE), pa, po (hQ), pa]
theorem Sz {bs : List Nat} (hl : bs.length ≤ 2000000) {k : Int} {u : Nat} (hT1 : Sp Tryz.prog I 57 [.t (bI bs)] (.tu [ci k, ci (u : Int), cb true])) (hk1 : ¬ k < 1) (hk3 : ¬ 3 < k) {n : Int} {v : Nat} (hu : u ≤ bs.length) (hT2 : Sp Tryz.prog I 57 [.t (bI (bs.drop u))] (.tu [ci n, ci (v : Int), cb true])) {a w : Nat} (ha : a ≤ 4611686018427387904) (huv : u + v ≤ bs.length) (hT3 : Sp Tryz.prog I 57 [.t (bI (bs.drop (u + v)))] (.tu [ci (a : Int), ci (w : Int), cb true])) (hw : w ≤ (bs.drop (u + v)).length) (hk : k = 3) {y r : Int} (hy : AO Tryz.prog (.bin .quo 3) [li (a : Int), li 2] (li y)) (hr : AO Tryz.prog (.bin .rem 3) [li (a : Int), li 2] (li r)) (h1 : r ≠ 1) {cc : List Nat} (hE : Sp Tryz.prog I 14 [chL k n 0 0 y] (.tu [.t (bI cc), ci 0])) (hQ : Sp Tryz.prog I 59 [.t (bI cc), .t (bI bs)] (lb true)) : Sp Tryz.prog I 18 [.t (bI bs)] (.tu [chL k n 0 0 y, ci 0]) :=
 sr 123 [po (hT1), pa, pk (AF 3 k 1), pk (Av 3 k 3), pk (Ay bs u _ rfl hu), po (hT2), pa, pk (Bi 3 (u : Int) (v : Int) ⟨by omega, by omega⟩), pk (Ay bs (u + v) _ rfl huv), po (hT3), pa, pk (Ay (bs.drop (u + v)) w _ rfl hw), pk (Ae 3 k 1), pk (Ae 3 k 2), pk (hy), pk (hr), pk (Ae 3 r 1), po (hE), pa, po (hQ), pa]
theorem Sy {bs : List Nat} (hl : bs.length ≤ 2000000) {k : Int} {u : Nat} (hT1 : Sp Tryz.prog I 57 [.t (bI bs)] (.tu [ci k, ci (u : Int), cb true])) (hk1 : ¬ k < 1) (hk3 : ¬ 3 < k) {n : Int} {v : Nat} (hu : u ≤ bs.length) (hT2 : Sp Tryz.prog I 57 [.t (bI (bs.drop u))] (.tu [ci n, ci (v : Int), cb true])) {a w : Nat} (ha : a ≤ 4611686018427387904) (huv : u + v ≤ bs.length) (hT3 : Sp Tryz.prog I 57 [.t (bI (bs.drop (u + v)))] (.tu [ci (a : Int), ci (w : Int), cb true])) (hw : w ≤ (bs.drop (u + v)).length) (hk : k = 3) {y r : Int} (hy : AO Tryz.prog (.bin .quo 3) [li (a : Int), li 2] (li y)) (hr : AO Tryz.prog (.bin .rem 3) [li (a : Int), li 2] (li r)) (h1 : r = 1) {z : Int} (hz : AO Tryz.prog (.bin .quo 3) [li (-((a : Int) + 1)), li 2] (li z)) {cc : List Nat} {e : Int} (he : e ≠ 0) (hE : Sp Tryz.prog I 14 [chL k n 0 0 z] (.tu [.t (bI cc), ci e])) : Sp Tryz.prog I 18 [.t (bI bs)] (.tu [chZ, ci 2]) :=
 sr 123 [po (hT1), pa, pk (AF 3 k 1), pk (Av 3 k 3), pk (Ay bs u _ rfl hu), po (hT2), pa, pk (Bi 3 (u : Int) (v : Int) ⟨by omega, by omega⟩), pk (Ay bs (u + v) _ rfl huv), po (hT3), pa, pk (Ay (bs.drop (u + v)) w _ rfl hw), pk (Ae 3 k 1), pk (Ae 3 k 2), pk (hy), pk (hr), pk (An 3 r 1), pk (Bi 3 (a : Int) 1 ⟨by omega, by omega⟩), pk (P8 ((a : Int) + 1) ⟨by omega, by omega⟩), pk (hz), po (hE), pk (AG 32 e 0)]
theorem Sx {bs : List Nat} (hl : bs.length ≤ 2000000) {k : Int} {u : Nat} (hT1 : Sp Tryz.prog I 57 [.t (bI bs)] (.tu [ci k, ci (u : Int), cb true])) (hk1 : ¬ k < 1) (hk3 : ¬ 3 < k) {n : Int} {v : Nat} (hu : u ≤ bs.length) (hT2 : Sp Tryz.prog I 57 [.t (bI (bs.drop u))] (.tu [ci n, ci (v : Int), cb true])) {a w : Nat} (ha : a ≤ 4611686018427387904) (huv : u + v ≤ bs.length) (hT3 : Sp Tryz.prog I 57 [.t (bI (bs.drop (u + v)))] (.tu [ci (a : Int), ci (w : Int), cb true])) (hw : w ≤ (bs.drop (u + v)).length) (hk : k = 3) {y r : Int} (hy : AO Tryz.prog (.bin .quo 3) [li (a : Int), li 2] (li y)) (hr : AO Tryz.prog (.bin .rem 3) [li (a : Int), li 2] (li r)) (h1 : r = 1) {z : Int} (hz : AO Tryz.prog (.bin .quo 3) [li (-((a : Int) + 1)), li 2] (li z)) {cc : List Nat} (hE : Sp Tryz.prog I 14 [chL k n 0 0 z] (.tu [.t (bI cc), ci 0])) (hQ : Sp Tryz.prog I 59 [.t (bI cc), .t (bI bs)] (lb false)) : Sp Tryz.prog I 18 [.t (bI bs)] (.tu [chZ, ci 2]) :=
 sr 123 [po (hT1), pa, pk (AF 3 k 1), pk (Av 3 k 3), pk (Ay bs u _ rfl hu), po (hT2), pa, pk (Bi 3 (u : Int) (v : Int) ⟨by omega, by omega⟩), pk (Ay bs (u + v) _ rfl huv), po (hT3), pa, pk (Ay (bs.drop (u + v)) w _ rfl hw), pk (Ae 3 k 1), pk (Ae 3 k 2), pk (hy), pk (hr), pk (An 3 r 1), pk (Bi 3 (a : Int) 1 ⟨by omega, by omega⟩), pk (P8 ((a : Int) + 1) ⟨by omega, by omega⟩), pk (hz), po (hE), pa, po (hQ), pa]
theorem Sw {bs : List Nat} (hl : bs.length ≤ 2000000) {k : Int} {u : Nat} (hT1 : Sp Tryz.prog I 57 [.t (bI bs)] (.tu [ci k, ci (u : Int), cb true])) (hk1 : ¬ k < 1) (hk3 : ¬ 3 < k) {n : Int} {v : Nat} (hu : u ≤ bs.length) (hT2 : Sp Tryz.prog I 57 [.t (bI (bs.drop u))] (.tu [ci n, ci (v : Int), cb true])) {a w : Nat} (ha : a ≤ 4611686018427387904) (huv : u + v ≤ bs.length) (hT3 : Sp Tryz.prog I 57 [.t (bI (bs.drop (u + v)))] (.tu [ci (a : Int), ci (w : Int), cb true])) (hw : w ≤ (bs.drop (u + v)).length) (hk : k = 3) {y r : Int} (hy : AO Tryz.prog (.bin .quo 3) [li (a : Int), li 2] (li y)) (hr : AO Tryz.prog (.bin .rem 3) [li (a : Int), li 2] (li r)) (h1 : r = 1) {z : Int} (hz : AO Tryz.prog (.bin .quo 3) [li (-((a : Int) + 1)), li 2] (li z)) {cc : List Nat} (hE : Sp Tryz.prog I 14 [chL k n 0 0 z] (.tu [.t (bI cc), ci 0])) (hQ : Sp Tryz.prog I 59 [.t (bI cc), .t (bI bs)] (lb true)) : Sp Tryz.prog I 18 [.t (bI bs)] (.tu [chL k n 0 0 z, ci 0]) :=
 sr 123 [po (hT1), pa, pk (AF 3 k 1), pk (Av 3 k 3), pk (Ay bs u _ rfl hu), po (hT2), pa, pk (Bi 3 (u : Int) (v : Int) ⟨by omega, by omega⟩), pk (Ay bs (u + v) _ rfl huv), po (hT3), pa, pk (Ay (bs.drop (u + v)) w _ rfl hw), pk (Ae 3 k 1), pk (Ae 3 k 2), pk (hy), pk (hr), pk (An 3 r 1), pk (Bi 3 (a : Int) 1 ⟨by omega, by omega⟩), pk (P8 ((a : Int) + 1) ⟨by omega, by omega⟩), pk (hz), po (hE), pa, po (hQ), pa]
end
theorem X4 {c : Bool} {j k : Nat} {q : Rat} (h : Lq q j) : XLe (.b (.it (fF true k q))) (.b (.it (fF c j q))) := by
 intro N w g l hl;have hv : (fc true k q).sem N w g (.agg l.toArray) := ⟨l, rfl, l, [], (List.append_nil l).symm, hl, rfl⟩;obtain ⟨vs, e, l1, l2, e2, h1, h2⟩ := Tr (c := true) (c' := c) (k := j) (k' := j) (q := q) (fun _ => rfl) (Nat.le_refl _) rfl N w g _ (Ql h rfl N w g _ hv)
 have h2 : l2 = [] := h2;injection e with e;have e := congrArg Array.toList e;simp only at e;rw [e, e2, h2, List.append_nil];exact h1
theorem TS {c : Bool} {j k : Nat} {x : Ch} (h : Lq x.q j) : CTle (chK true k x) (chK c j x) := (ILe.cons XLe.refl (ILe.cons XLe.refl (ILe.cons (X4 h) ILe.refl))).ag
section
variable {I : WInv}
theorem QV (a : Nat) (ha : a ≤ 4611686018427387904) : AO Tryz.prog (.bin .quo 3) [li (a : Int), li 2] (li ((a / 2 : Nat) : Int)) := by
 have e : (a : Int).tdiv 2 = ((a / 2 : Nat) : Int) := by rw [Int.tdiv_eq_ediv_of_nonneg (by omega)]; omega
 have := KX (P := Tryz.prog) 3 (a : Int) 2 (by omega) (by rw [e]; exact ⟨by omega, by omega⟩)
 rwa [e] at this
theorem SF (a : Nat) : AO Tryz.prog (.bin .rem 3) [li (a : Int), li 2] (li ((a % 2 : Nat) : Int)) := by
 have e : (a : Int).tmod 2 = ((a % 2 : Nat) : Int) := by rw [Int.tmod_eq_emod_of_nonneg (by omega)]; omega
 have := J7 (P := Tryz.prog) 3 (a : Int) 2 (by omega)
 rwa [e] at this
theorem Wp (a : Nat) (ha : a ≤ 4611686018427387904) (h : a % 2 = 1) : AO Tryz.prog (.bin .quo 3) [li (-((a : Int) + 1)), li 2] (li (-((a / 2 : Nat) + 1 : Int))) := by
 have e : (-((a : Int) + 1)).tdiv 2 = -((a / 2 : Nat) + 1 : Int) := by rw [Int.neg_tdiv, Int.tdiv_eq_ediv_of_nonneg (by omega)]; omega
 have := KX (P := Tryz.prog) 3 (-((a : Int) + 1)) 2 (by omega) (by rw [e]; exact ⟨by omega, by omega⟩)
 rwa [e] at this
theorem Pv {j : Nat} (hj : 0 < j) {k n a b z : Int} {f : FuncId} {args : List CT} {e : Int} (h : Sp Tryz.prog I f args (.tu [chL k n a b z, ci e])) : Sp Tryz.prog I f args (.tu [chK false j ⟨k, n, 0, a, b, z⟩, ci e]) := h.rs (MU ⟨Pw j hj k n a b z, CTle.refl, trivial⟩)
theorem No (k n a b z : Int) : Sp Tryz.prog I 14 [chL k n a b z] (.tu [.t (bI (AT ⟨k, n, 0, a, b, z⟩).1), ci (AT ⟨k, n, 0, a, b, z⟩).2]) := Sp.wk (JK (I := I) (c := false) (k := 84) ⟨k, n, 0, a, b, z⟩ (by omega)).1 ⟨Pw 84 (by omega) k n a b z, trivial⟩
theorem FB {n : Nat} {r : List Nat} : (Aa n ++ r).drop (Aa n).length = r := List.drop_left
theorem O9 {j : Nat} {y : Ch} {b : List Nat} (hy : AT y = (b, 0)) (hj : Lq y.q j) : Sp Tryz.prog I 18 [.t (bI b)] (.tu [chK false j y, ci 0]) := by
 have hb : B8 b := by have := EU y; rwa [hy] at this
 have hlb : b.length ≤ 500 := by have := Ey y; rwa [hy] at this
 have hQ := Sj (I := I) (xs := b) (ys := b) true (decide_eq_true rfl) hb hb;have hT1 := BX (I := I) hb;obtain ⟨n, hn, e1, h1⟩ := FR hy;have main : ∀ (kd : Nat) (r2 : List Nat), (kd = 1 ∨ kd = 2 ∨ kd = 3) → b = Aa kd ++ (Aa n ++ r2) → AJ b = (kd, (Aa kd).length, 0) ∧ (Aa kd).length ≤ b.length ∧ AJ (b.drop (Aa kd).length) = (n, (Aa n).length, 0) ∧ (Aa kd).length + (Aa n).length ≤ b.length ∧ b.drop ((Aa kd).length + (Aa n).length) = r2 := by
  intro kd r2 hk e;have hk : kd ≤ 4611686018427387904 := by omega
  subst e;refine ⟨C4 kd _ hk, by simp, ?_, by simp only [List.length_append] <;> omega, ?_⟩
  ·rw [FB, C4 n _ (by omega)]
  ·rw [← List.drop_drop, FB, FB]
 rcases h1 with ⟨ey, hl, h1⟩ | ⟨a, c, ha, hc, ey, h1⟩ | ⟨ey, hz, h1⟩
 ·obtain ⟨d1, d2, d3, d4, d5⟩ := main 1 _ (.inl rfl) h1
  have hT2 := BX (I := I) (hb.drop (Aa 1).length);have hT3 := BX (I := I) (hb.drop ((Aa 1).length + (Aa n).length));rw [d1] at hT1;rw [d3] at hT2;have d6 := C4 (Bl y.q).length (Bl y.q) (by omega)
  rw [d5, d6, ← d5] at hT3;have d7 : (b.drop ((Aa 1).length + (Aa n).length)).drop (Aa (Bl y.q).length).length = Bl y.q := by rw [d5, FB]
  have hF := KH (I := I) (GZ y.q) hl;rw [Tk] at hF;have hE := (JK (I := I) (c := true) (k := 84) y (by omega)).1
  rw [hy] at hE;rw [ey] at hE ⊢;rw [← d7] at hF;refine (S7 (by omega) hT1 (by omega) (by omega) d2 hT2 (by omega) d4 hT3 (by rw [d5]; simp) rfl (ln := ((Bl y.q).length : Int)) (by rw [d7]) rfl (by omega) hF hE hQ).rs (MU ⟨TS hj, CTle.refl, trivial⟩)
 ·obtain ⟨d1, d2, d3, d4, d5⟩ := main 2 _ (.inr (.inl rfl)) h1
  have hT2 := BX (I := I) (hb.drop (Aa 2).length);have hT3 := BX (I := I) (hb.drop ((Aa 2).length + (Aa n).length));rw [d1] at hT1;rw [d3] at hT2;have d6 := C4 a (Aa c) (by omega)
  rw [d5, d6, ← d5] at hT3;have d7 : (b.drop ((Aa 2).length + (Aa n).length)).drop (Aa a).length = Aa c := by rw [d5, FB]
  have hT4 := BX (I := I) ((hb.drop ((Aa 2).length + (Aa n).length)).drop (Aa a).length);have d8 := C4 c [] (by omega)
  rw [List.append_nil] at d8;rw [d7, d8, ← d7] at hT4;have hE := No (I := I) 2 (n : Int) (a : Int) (c : Int) 0;rw [← ey, hy] at hE;rw [ey];exact Pv hj.k0 (S4 (by omega) hT1 (by omega) (by omega) d2 hT2 (by omega) d4 hT3 (by rw [d5]; simp) rfl hT4 hE hQ)
 ·have hc := C5 hz
  obtain ⟨d1, d2, d3, d4, d5⟩ := main 3 _ (.inr (.inr rfl)) h1;have hT2 := BX (I := I) (hb.drop (Aa 3).length);have hT3 := BX (I := I) (hb.drop ((Aa 3).length + (Aa n).length));rw [d1] at hT1;rw [d3] at hT2;have hzb := Hq y.cost (by omega) (by omega)
  have d6 := C4 (zig y.cost) [] (by omega)
  rw [List.append_nil] at d6;rw [d5, d6, ← d5] at hT3;have hE := No (I := I) 3 (n : Int) 0 0 y.cost;rw [← ey, hy] at hE;have huz := Lw y.cost (by omega) (by omega)
  rw [ey];unfold Jp at huz;by_cases hr : zig y.cost % 2 = 1
  ·rw [if_pos hr] at huz
   have hz2 := Wp (zig y.cost) hzb hr;rw [huz] at hz2;have hr2 := SF (zig y.cost);rw [hr] at hr2;exact Pv hj.k0 (Sw (by omega) hT1 (by omega) (by omega) d2 hT2 hzb d4 hT3 (by rw [d5]; exact Nat.le_refl _) rfl (QV (zig y.cost) hzb) hr2 rfl hz2 hE hQ)
  ·rw [if_neg hr] at huz
   have hy2 := QV (zig y.cost) hzb;rw [huz] at hy2;exact Pv hj.k0 (Sz (by omega) hT1 (by omega) (by omega) d2 hT2 hzb d4 hT3 (by rw [d5]; exact Nat.le_refl _) rfl hy2 (SF (zig y.cost)) (by omega) hE hQ)
theorem L4 {b : List Nat} (hb : B8 b) (hl : b.length ≤ 2000000) (hno : ∀ y, AT y ≠ (b, 0)) : Sp Tryz.prog I 18 [.t (bI b)] (.tu [chZ, ci 2]) := by
 have qf : ∀ x : Ch, (AT x).2 = 0 → Sp Tryz.prog I 59 [.t (bI (AT x).1), .t (bI b)] (lb false) := fun x h => Sj false (decide_eq_false fun h2 => hno x (by rw [← h2, ← h])) (EU x) hb
 have hT1 := BX (I := I) hb;have b1 := Dz b;generalize AJ b = t1 at *;obtain ⟨k, u, o1⟩ := t1;simp only at hT1 b1;by_cases ho1 : ¬ o1 = 0
 ·rw [decide_eq_false ho1] at hT1
  exact Sv hl hT1
 have ho1 := Decidable.not_not.1 ho1;have b1 := b1 ho1;rw [decide_eq_true ho1] at hT1;by_cases hk1 : (k : Int) < 1
 ·exact Su hl hT1 hk1
 by_cases hk3 : 3 < (k : Int)
 ·exact Ss hl hT1 hk1 hk3
 have hT2 := BX (I := I) (hb.drop u);have b2 := Dz (b.drop u);generalize AJ (b.drop u) = t2 at *;obtain ⟨n, v, o2⟩ := t2;simp only at hT2 b2;by_cases ho2 : ¬ o2 = 0
 ·rw [decide_eq_false ho2] at hT2
  exact Sr hl hT1 hk1 hk3 b1.2.2.1 hT2
 have ho2 := Decidable.not_not.1 ho2;have b2 := b2 ho2;rw [List.length_drop] at b2;rw [decide_eq_true ho2] at hT2;have hT3 := BX (I := I) (hb.drop (u + v));have b3 := Dz (b.drop (u + v));have z3 := Hg (b.drop (u + v));generalize AJ (b.drop (u + v)) = t3 at *;obtain ⟨a, w, o3⟩ := t3;simp only at hT3 b3 z3;by_cases ho3 : ¬ o3 = 0
 ·rw [decide_eq_false ho3] at hT3
  have ha : a = 0 := by have := z3.2 ho3; simp at this; exact this.1
  exact Sq hl hT1 hk1 hk3 b1.2.2.1 hT2 (by omega) (by omega) hT3
 have ho3 := Decidable.not_not.1 ho3;have b3 := b3 ho3;rw [decide_eq_true ho3] at hT3;have huv : u + v ≤ b.length := by omega
 by_cases k1 : (k : Int) = 1
 ·by_cases h6 : (((b.drop (u + v)).drop w).length : Int) = (a : Int)
  ·by_cases h7 : 400 < (a : Int)
   ·exact Sn hl hT1 hk1 hk3 b1.2.2.1 hT2 b3.1 huv hT3 b3.2.2.1 k1 rfl h6 h7
   ·have hF := KH (I := I) ((hb.drop (u + v)).drop w) (by omega)
    have hE := (JK (I := I) (c := true) (k := 84) ⟨(k : Int), (n : Int), NP ((b.drop (u + v)).drop w), 0, 0, 0⟩ (by omega)).1
    by_cases he : (AT ⟨(k : Int), (n : Int), NP ((b.drop (u + v)).drop w), 0, 0, 0⟩).2 = 0
    ·have hQ := qf _ he
     rw [he] at hE;exact S8 hl hT1 hk1 hk3 b1.2.2.1 hT2 b3.1 huv hT3 b3.2.2.1 k1 rfl h6 h7 hF hE hQ
    ·exact S9 hl hT1 hk1 hk3 b1.2.2.1 hT2 b3.1 huv hT3 b3.2.2.1 k1 rfl h6 h7 hF he hE
  ·exact So hl hT1 hk1 hk3 b1.2.2.1 hT2 b3.1 huv hT3 b3.2.2.1 k1 rfl h6
 by_cases k2 : (k : Int) = 2
 ·have hT4 := BX (I := I) ((hb.drop (u + v)).drop w)
  generalize AJ ((b.drop (u + v)).drop w) = t4 at *;obtain ⟨c, w2, o4⟩ := t4;simp only at hT4;by_cases ho4 : o4 = 0
  ·rw [decide_eq_true ho4] at hT4
   have hE := No (I := I) (k : Int) (n : Int) (a : Int) (c : Int) 0;by_cases he : (AT ⟨(k : Int), (n : Int), 0, (a : Int), (c : Int), 0⟩).2 = 0
   ·have hQ := qf _ he
    rw [he] at hE;exact S5 hl hT1 hk1 hk3 b1.2.2.1 hT2 b3.1 huv hT3 b3.2.2.1 k2 hT4 hE hQ
   ·exact S6 hl hT1 hk1 hk3 b1.2.2.1 hT2 b3.1 huv hT3 b3.2.2.1 k2 hT4 he hE
  ·rw [decide_eq_false ho4] at hT4
   exact Sm hl hT1 hk1 hk3 b1.2.2.1 hT2 b3.1 huv hT3 b3.2.2.1 k2 hT4
 have k3 : (k : Int) = 3 := by omega
 by_cases hr : a % 2 = 1
 ·have hr2 := SF a
  rw [hr] at hr2;have hE := No (I := I) (k : Int) (n : Int) 0 0 (-((a / 2 : Nat) + 1 : Int));by_cases he : (AT ⟨(k : Int), (n : Int), 0, 0, 0, -((a / 2 : Nat) + 1 : Int)⟩).2 = 0
  ·have hQ := qf _ he
   rw [he] at hE;exact Sx hl hT1 hk1 hk3 b1.2.2.1 hT2 b3.1 huv hT3 b3.2.2.1 k3 (QV a b3.1) hr2 rfl (Wp a b3.1 hr) hE hQ
  ·exact Sy hl hT1 hk1 hk3 b1.2.2.1 hT2 b3.1 huv hT3 b3.2.2.1 k3 (QV a b3.1) hr2 rfl (Wp a b3.1 hr) he hE
 ·have hE := No (I := I) (k : Int) (n : Int) 0 0 ((a / 2 : Nat) : Int)
  by_cases he : (AT ⟨(k : Int), (n : Int), 0, 0, 0, ((a / 2 : Nat) : Int)⟩).2 = 0
  ·have hQ := qf _ he
   rw [he] at hE;exact S0 hl hT1 hk1 hk3 b1.2.2.1 hT2 b3.1 huv hT3 b3.2.2.1 k3 (QV a b3.1) (SF a) (by omega) hE hQ
  ·exact S3 hl hT1 hk1 hk3 b1.2.2.1 hT2 b3.1 huv hT3 b3.2.2.1 k3 (QV a b3.1) (SF a) (by omega) he hE
end
abbrev c8 (z : Int) : CT := .one (.b (.lit (.int .u8 z)))
section
variable {I : WInv}
theorem UW {xs : List Nat} (hx : B8 xs) : Sp Tryz.prog I 60 [c8 7, .t (bI xs)] (.tu [.t (bI (frame 7 xs).1), ci (frame 7 xs).2]) := by
 intro N w vs _ hN hv;obtain ⟨v, r, rfl, h, v2, r2, rfl, h2, h3⟩ := hv;have h : [v] = [.int .u8 7] := h;injection h with h;subst h;have h3 : r2 = [] := h3;subst h3;obtain ⟨A, c, e1, g1, g2, g3⟩ := LZ h2;injection e1 with e1;subst e1;exact (Rs 7 w g1 hx (by omega)).mono fun e w' he => GO he
theorem Lx {xs : List Nat} (hx : B8 xs) (hl : xs.length ≤ 140737488355328) : Sp Tryz.prog I 26 [.t (bI xs)] (.tu [c8 ((Be xs).1 : Nat), .t (bI (Be xs).2.1), ci ((Be xs).2.2.1 : Nat), ci ((Be xs).2.2.2 : Nat)]) := by
 intro N w vs _ hN hv;obtain ⟨v, r, rfl, h, h'⟩ := hv;have h' : r = [] := h';subst h';obtain ⟨A, c, e1, h1, h2, h3⟩ := LZ h;injection e1 with e1;subst e1;refine (MR w h1 hx h2 hl h3).mono fun e w' ⟨v, he, ho⟩ => ?_
 subst he;exact ⟨_, rfl, ⟨_, rfl, _, _, rfl, rfl, _, _, rfl, OM ho, _, _, rfl, rfl, _, _, rfl, rfl, rfl⟩, ho.2⟩
end
section
variable {P : Program}
theorem Xf (t : TypeId) (x y : Int) (b : Bool) (h : (!decide (x = y)) = b) : AO P (.bin .neq t) [l8 x, l8 y] (lb b) := Bn (vs := [.int .u8 x, .int .u8 y]) fun w => by subst h; simp [OpK.run, eqGuard, binOp, Op.intCmp]; rfl
theorem Pf (w : World) (d : Nat) {t e : TypeId} {c : Nat} (ht : P.underlying t = some (.slice e)) : (Op.equalIn (d + 1) t (.slice none 0 c) (.slice none 0 0)).run P w = .ok true w := by
 simp [Op.equalIn, AB ht]
theorem UJ {t e : TypeId} (c : Nat) (ht : P.underlying t = some (.slice e)) : AO P (.bin .eql t) [BS (.slice none 0 c), BS (.slice none 0 0)] (lb true) := by
 intro N w g vs hv;obtain ⟨v, x, rfl, h1, h2⟩ := EF hv;have h1 : [v] = [.slice none 0 c] := h1;have h2 : [x] = [.slice none 0 0] := h2;injection h1 with h1;injection h2 with h2;subst h1 h2;refine ⟨.bool true, w, ?_, Below.refl _ _, (rfl : [_] = [_])⟩;have key : (Op.equal t (.slice none 0 c) (.slice none 0 0)).run P w = .ok true w := Pf w 9999 ht;simp only [OpK.run, Sem.run_bind, eqGuard];simp [binOp, key]
end
def bS (xs : List Nat) : Item where
 n := 1
 T := fun N w l => (bI xs).T N w l ∧ ∃ a n c, l = [.slice (some a) n c]
 step := fun hw hN ⟨h, h2⟩ => ⟨(bI xs).step hw hN h, h2⟩
 len := fun ⟨h, _⟩ => (bI xs).len h
 one := fun ⟨h, _⟩ => (bI xs).one h
theorem XA (xs : List Nat) : AO Tryz.prog (.bin .eql 31) [tit (bS xs), BS (.slice none 0 0)] (lb false) := by
 intro N w g vs hv;obtain ⟨v, x, rfl, ⟨_, a, n, c, e1⟩, h2⟩ := EF hv;injection e1 with e1;subst e1;have h2 : [x] = [.slice none 0 0] := h2;injection h2 with h2;subst h2;refine ⟨.bool false, w, ?_, Below.refl _ _, (rfl : [_] = [_])⟩;have key : (Op.equal 31 (.slice (some a) n c) (.slice none 0 0)).run Tryz.prog w = .ok false w := MH w 9999 (e := 5) (by kernel_rfl)
 simp only [OpK.run, Sem.run_bind, eqGuard];simp [binOp, key]
theorem Xe (xs : List Nat) : Q1 1 (bS xs) (xs.map Ad).length (xs.map Ad).flatten := fun N w l h => BT AU (AM _) N w l h.1
section
variable {I : WInv}
theorem SpN.nil {P : Program} {f : FuncId} {args : List CT} (T s : Nat) (h : Sp P I f args (BS (.slice none 0 0))) : SpN P I f args none ⟨T, some (s, 0), []⟩ := by
 refine ⟨rfl, fun N w vs a1 a2 hv => (h N w vs a1 a2 hv).mono ?_⟩
 rintro en w' ⟨v, e1, e2, e3⟩;have e2 : [v] = [.slice none 0 0] := e2;injection e2 with e2;subst e2;exact ⟨_, N, none, 0, 0, e1, fun b hb => hb, fun b hb => .inl hb, ⟨none, 0, 0, rfl, rfl⟩, ⟨_, rfl, .inl ⟨s, 0, rfl, rfl, rfl, rfl⟩⟩, e3⟩
theorem Vt {xs : List Nat} (hl : xs.length ≤ 1000000000) : SpN Tryz.prog I 61 [.t (bI xs)] none (bbx xs) := by
 have hlm : (xs.map Ad).length = xs.length := List.length_map _;have h1 : SpN Tryz.prog I 61 [.t (bS xs)] none ⟨5, some (1, 0 + (xs.map Ad).length), Am (xs.map Ad)⟩ := sn 8 5 [pk (XA xs), ⟨.src 1 (bS xs) (xs.map Ad).length (xs.map Ad).flatten, Xe xs⟩, ⟨.ap 0 ((xs.map Ad).length) 1, ⟨by omega, by simp [maxLen]; omega⟩⟩] (As _)
 rw [Nat.zero_add, hlm] at h1;have h2 : ∀ c, SpN Tryz.prog I 61 [.one (.b (.lit (.slice none 0 c)))] none ⟨5, some (1, 0), []⟩ := fun c => SpN.nil _ _ (sr 8 [pk (UJ (t := 31) c (e := 5) (by kernel_rfl))])
 refine ⟨h1.1, fun N w vs a1 a2 hv => ?_⟩
 obtain ⟨v, r, rfl, h, h'⟩ := hv;obtain ⟨A, c, e, k1, k2, k3⟩ := h;cases A with
 | some a => exact h1.2 N w _ a1 a2 ⟨_, _, rfl, ⟨⟨_, c, e, k1, k2, k3⟩, a, _, c, e⟩, h'⟩
 | none =>
  have hx : xs = [] := by
   cases xs with
   | nil => rfl
   | cons x t => obtain ⟨b, off, h, _⟩ := k3 (fun h => by cases h); cases h
  subst hx;exact (h2 c).2 N w _ a1 a2 ⟨_, _, rfl, e, h'⟩
end
def Tg (b : List Nat) (x : Ch) : List Nat × Int := if (AT x).2 = 0 then (b ++ By 7 (AT x).1, 0) else ([], (AT x).2)
theorem Tl (x : Ch) (h : (AT x).2 = 0) : frame 7 (AT x).1 = (By 7 (AT x).1, 0) ∧ (By 7 (AT x).1).length ≤ 1000 := by
 have hl := Ey x;have h9 := At (n := (AT x).1.length) (by omega)
 refine ⟨by unfold frame; rw [if_pos (by omega)], ?_⟩
 rw [EV];omega
theorem Tn (x : Ch) : B8 (By 7 (AT x).1) := by
 have hl := Ey x;intro y hy;unfold By at hy;rcases List.mem_append.1 hy with h | h
 ·exact F9 (by omega) (EU x) (by omega) y h
 ·exact QJ _ y h
section
variable {I : WInv} {c : Bool} {k : Nat}
theorem Ua (b : List Nat) (hb : b.length ≤ 1000000000) (x : Ch) (hk : k ≤ 1000) : Sp Tryz.prog CQ 22 [.t (bI b), chK c k x] (.tu [.t (bI (Tg b x).1), ci (Tg b x).2]) := by
 have hE := Tt (c := c) (k := k) x hk;have hF := UW (I := CQ) (EU x);unfold Tg;by_cases h : (AT x).2 = 0
 ·obtain ⟨f1, f2⟩ := Tl x h
  rw [f1] at hF;rw [h] at hE;rw [if_pos h];simp only at hF ⊢;generalize By 7 (AT x).1 = f at *;generalize (AT x).1 = e at *;exact sr 29 [po (hE), pa, po (hF), pa, pon (Vt (xs := b) (by omega)), ⟨.src 1 (bI f) ((f).map Ad).length ((f).map Ad).flatten, BT AU (AM _)⟩, ⟨.ap ((b).length) (((f).map Ad).length) 1, ⟨by simp; omega, by simp [maxLen]; omega⟩⟩, pm ((show Leads CQ _ ⟨[(4, .s 24), (5, .i 0)], [(24, some ⟨5, some (1, (b).length + ((f).map Ad).length), (Am ((b).map Ad)) ++ (((f).map Ad).flatten.map It.b)⟩)], 27⟩ ⟨[(4, .s 24), (5, .i 0)], [(24, some ⟨5, some (1, (b ++ f).length), Am ((b ++ f).map Ad)⟩)], 27⟩ from Bj [] ⟨rfl, TVle.refl, rfl, TVle.refl, trivial⟩ ⟨rfl, rfl, (congrArg (fun m => some (1, m)) (show (b).length + ((f).map Ad).length = (b ++ f).length by simp only [List.length_append, List.length_map] <;> omega)), ILe.eq (show (Am ((b).map Ad)) ++ (((f).map Ad).flatten.map It.b) = Am ((b ++ f).map Ad) from by simp [Am]), trivial⟩ (hnp := ⟨fun _ => BN (As _) (As _), trivial⟩))), pm (AY (I := CQ) (t := 4) (k := 24) (E := [(5, .i 0)]) (B := []) (nx := 27) (T := 5) (sz := 1) (n := ((b ++ f).length)) ((b ++ f).map Ad) rfl (by simp) AU rfl)]
 ·rw [if_neg h]
  simp only;generalize (AT x).2 = r at *;generalize (AT x).1 = e at *;exact ST (sr 29 [po (hE), pk (AG 32 r 0)])
end
def ch0 : Ch := ⟨0, 0, 0, 0, 0, 0⟩
def cat (L : List Ch) (i : Nat) : Ch := L.getD i ch0
theorem EC {L : List Ch} {i : Nat} (h : i < L.length) : L[i]? = some (cat L i) := by unfold cat; rw [List.getD_eq_getElem?_getD, List.getElem?_eq_getElem h]; rfl
theorem D0 {L : List Ch} {i : Nat} {f : Ch → List It0} (h : i < L.length) : (L.map f)[i]? = some (f (cat L i)) := map_some (EC h)
def jfr (b : List Nat) (a : Nat) (y : Ch) (e : Nat) : Prop := ∃ body used, Be (b.drop a) = (7, body, used, 0) ∧ AT y = (body, 0) ∧ e = a + used
structure Jr (b : List Nat) (cs : List Ch) (p : Nat → Nat) : Prop where
 st : ∀ i, i < cs.length → jfr b (p i) (cat cs i) (p (i + 1))
 en : ∀ y e, ¬ jfr b (p cs.length) y e
theorem RM {xs : List Nat} (h : (Be xs).2.2.2 = 0) : 0 < (Be xs).2.2.1 ∧ (Be xs).2.2.1 ≤ xs.length := by
 unfold Be at h ⊢;split
 ·rename_i h0; rw [if_pos h0] at h; cases h
 ·rename_i h0
  rw [if_neg h0] at h;split
  ·rename_i h1; rw [if_pos h1] at h; exact absurd h h1
  ·rename_i h1
   rw [if_neg h1] at h;split
   ·rename_i h2; rw [if_pos h2] at h; cases h
   ·rename_i h2
    rw [if_neg h2] at h;split
    ·rename_i h3; rw [if_pos h3] at h; cases h
    ·rename_i h3
     rw [if_neg h3] at h;split
     ·simp only; omega
     ·rename_i h4; rw [if_neg h4] at h; cases h
theorem Tc {b : List Nat} {a : Nat} {y : Ch} {e : Nat} (h : jfr b a y e) : a < e ∧ e ≤ b.length := by
 obtain ⟨body, used, h1, _, rfl⟩ := h;have := RM (xs := b.drop a) (by rw [h1])
 rw [h1, List.length_drop] at this;simp only at this;omega
theorem Jr.mono {b : List Nat} {cs : List Ch} {p : Nat → Nat} (h : Jr b cs p) (h0 : p 0 = 0) : ∀ i, i ≤ cs.length → i ≤ p i ∧ p i ≤ b.length
 | 0, _ => by rw [h0]; omega
 | i + 1, hi => by
  have := h.mono h0 i (by omega)
  have := Tc (h.st i (by omega))
  omega
abbrev B7 (c : Bool) (k : Nat) (x : Ch) : List It0 := [.lit (.int .i64 x.kind), .lit (.int .i64 x.node), .it (fF c k x.q), .lit (.int .i64 x.fst), .lit (.int .i64 x.nxt), .lit (.int .i64 x.cost)]
theorem Wk {c : Bool} {k : Nat} {L : List Ch} : ∀ r ∈ L.map (B7 c k), Cz r = 9 := by
 intro r hr;obtain ⟨x, _, rfl⟩ := List.mem_map.1 hr
 rfl
abbrev csI (c : Bool) (k : Nat) (L : List Ch) : Item := slI 9 (L.map (B7 c k))
abbrev cbx (c : Bool) (k : Nat) (L : List Ch) : Ent := ⟨28, some (9, L.length), Am (L.map (B7 c k))⟩
abbrev lbx (k : Nat) : Ent := ⟨39, none, [.sl k]⟩
abbrev ibx (z : Int) : Ent := ⟨3, none, [.i z]⟩
section
variable {I : WInv} {nt : Nat}
theorem OQ {E : Env} {B : Bxs} {k nx T T2 s : Nat} : Leads I nt ⟨E, (k, some ⟨T, none, [.z]⟩) :: B, nx⟩ ⟨E, (nx, some ⟨T2, some (s, 0), []⟩) :: (k, some ⟨T, none, [.sl nx]⟩) :: B, nx + 1⟩ := by
 rintro N0 w0 a w ⟨N, g, h1, h2⟩;have hfr : g nx = none := h2 nx (Nat.le_refl _);have hx := Cf (v := .sl none 0 0) hfr;have old : ∀ j e, nx ≠ j → Ao ((nx, some ⟨T2, some (s, 0), []⟩) :: (k, some ⟨T, none, [.sl nx]⟩) :: B) j = some e → ∃ e', Ao ((k, some ⟨T, none, [.z]⟩) :: B) j = some e' := by
  intro j e hj he;rw [Bg, if_neg hj, Bg] at he;rw [Bg];by_cases hk : k = j
  ·rw [if_pos hk]; exact ⟨_, rfl⟩
  ·rw [if_neg hk] at he ⊢; exact ⟨e, he⟩
 refine ⟨N, upg g nx (.sl none 0 0), { h1 with slots := ?_, boxes := ?_, inj := ?_, rig := fun k v hv => hx k v (h1.rig k v hv) }, ?_⟩
 ·intro q v hv
  exact TV.step (h1.slots q v hv) (WStep.refl _ _) (fun _ h => h) hx
 ·intro j e he
  rw [Bg] at he;by_cases hk : nx = j
  ·subst hk
   rw [if_pos rfl] at he;injection he with he;subst he;exact ⟨_, BW, .inl ⟨s, 0, rfl, rfl, rfl, rfl⟩⟩
  ·rw [if_neg hk, Bg] at he
   by_cases hj : k = j
   ·subst hj
    rw [if_pos rfl] at he;injection he with he;subst he;have hb := h1.boxes k ⟨T, none, [.z]⟩ (by rw [Bg, if_pos rfl])
    have hb := hb.keep (WStep.refl _ _) (fun _ h => h) (fun b hb2 => hb.notN hb2) (fun b hb => rfl) hx
    obtain ⟨gv, r1, r2⟩ := hb;refine ⟨gv, r1, ?_⟩;rcases r2 with ⟨s', n', q1, _⟩ | ⟨b, cs, l, q1, q2, q3, q4⟩
    ·cases q1
    ·refine .inr ⟨b, cs, l, q1, q2, ?_, q4⟩
     obtain ⟨l1, l2, e1, e2, e3⟩ := q3;have e2 : l1 = [.slice none 0 0] := e2;subst e2;exact ⟨_, _, e1, ⟨none, 0, 0, BW, rfl⟩, e3⟩
   ·rw [if_neg hj] at he
    have hb := h1.boxes j e (by rw [Bg, if_neg hj]; exact he)
    exact hb.keep (WStep.refl _ _) (fun _ h => h) (fun b hb2 => hb.notN hb2) (fun b hb => rfl) hx
 ·intro i j e e' b q1 q2 q3 q4
  by_cases hk : nx = i
  ·subst hk
   rw [EG] at q3;cases q3
  ·by_cases hj : nx = j
   ·subst hj
    rw [EG] at q4;cases q4
   ·obtain ⟨f1, p1⟩ := old i e hk q1
    obtain ⟨f2, p2⟩ := old j e' hj q2;unfold AA at q3 q4;rw [CW (Ne.symm hk)] at q3;rw [CW (Ne.symm hj)] at q4;exact h1.inj i j f1 f2 b p1 p2 q3 q4
 ·intro k hk
  change nx + 1 ≤ k at hk
  show upg g nx _ k = none;rw [CW (by omega : k ≠ nx)]
  exact h2 k (show nx ≤ k by omega)
end
section
variable {I : WInv} {k : Nat}
theorem SI (L : List Ch) (hl : L.length ≤ 1000000000) (x : Ch) (e u : Int) : SpM Tryz.prog I 64 [(0, some (lbx 2)), (1, some (ibx u)), (2, some (cbx true k L))] [chK true k x, ci e, .one (.ptr 0 0), .one (.ptr 1 0)] [(0, some (lbx 2)), (1, some (ibx e)), (2, some (cbx true k (L ++ [x])))] (lb true) :=
 sm 12 [⟨.ap ((L).length) 1 104, ⟨by omega, by simp [maxLen]; omega⟩⟩, pm ((show Leads I _ ⟨[(1, .i e), (3, .p 1 0)], [(0, some ⟨39, none, [.sl 8]⟩), (1, some ⟨3, none, [.i u]⟩), (8, some ⟨28, some (9, (L).length + 1), (Am ((L).map (B7 true k))) ++ ([.i x.kind, .i x.node, .b (.it (fF true k x.q)), .i x.fst, .i x.nxt, .i x.cost])⟩)], 10⟩ ⟨[(1, .i e), (3, .p 1 0)], [(0, some ⟨39, none, [.sl 2]⟩), (1, some ⟨3, none, [.i u]⟩), (2, some ⟨28, some (9, (L ++ [x]).length), Am (((L ++ [x])).map (B7 true k))⟩)], 10⟩ from Bj [(2, 8)] ⟨rfl, TVle.refl, rfl, TVle.refl, trivial⟩ ⟨rfl, rfl, rfl, ILe.refl, rfl, rfl, rfl, ILe.refl, rfl, rfl, (congrArg (fun m => some (9, m)) (show (L).length + 1 = (L ++ [x]).length by simp)), ILe.eq (show (Am ((L).map (B7 true k))) ++ ([.i x.kind, .i x.node, .b (.it (fF true k x.q)), .i x.fst, .i x.nxt, .i x.cost]) = Am (((L ++ [x])).map (B7 true k)) from by simp [Am]), trivial⟩))]
end
theorem Td {j : Nat} {y : Ch} {b : List Nat} (hy : AT y = (b, 0)) (hj : Lq y.q j) : Sp Tryz.prog Ai 16 [.t (bI b)] (.tu [chK true j y, ci 0]) := (Ro hy).rs (MU ⟨TS hj, CTle.refl, trivial⟩)
theorem VV {xs : List Nat} (h : B8 xs) : B8 (Be xs).2.1 := by
 unfold Be;split
 ·exact fun x hx => by cases hx
 ·split
  ·exact fun x hx => by cases hx
  ·split
   ·exact fun x hx => by cases hx
   ·split
    ·exact fun x hx => by cases hx
    ·split
     ·exact (h.drop _).take _
     ·exact fun x hx => by cases hx
theorem Xj {a used e : Nat} (h : e = a + used) (hb : e ≤ 4611686018427387904) : AO Tryz.prog (.bin .add 3) [li (a : Int), li (used : Int)] (li (e : Int)) := by
 have := Bi (P := Tryz.prog) 3 (a : Int) (used : Int) ⟨by omega, by omega⟩
 rwa [show (a : Int) + (used : Int) = (e : Int) by omega] at this
section
variable {k : Nat}
def est (k : Nat) (b : List Nat) (a : Int) (L : List Ch) (u : Int) : Go.Proofs.YtdgbealknnmkoaaGreatDoor.St := ⟨[(0, .t (slI 1 ((b).map (Ad)))), (1, .cv (.one (.clo 64 [(0, 0), (1, 0)]))), (4, .i a)], [(0, some ⟨39, none, [.sl 2]⟩), (1, some ⟨3, none, [.i u]⟩), (2, some ⟨28, some (9, (L).length), Am ((L).map (B7 true k))⟩)], 50⟩
def Vd (k : Nat) (L : List Ch) (u : Int) : Go.Proofs.YtdgbealknnmkoaaGreatDoor.St := ⟨[], [(0, some ⟨39, none, [.sl 2]⟩), (1, some ⟨3, none, [.i u]⟩), (2, some ⟨28, some (9, (L).length), Am ((L).map (B7 true k))⟩)], 50⟩
theorem Ve (b : List Nat) (hb : B8 b) (hl : b.length ≤ 1000000000) (a : Nat) (L : List Ch) (hL : L.length ≤ 1000000000) (u : Int) (y : Ch) (e : Nat) (h : jfr b a y e) (hk : Lq y.q k) :
  Rnd Tryz.prog Ai 44 (CJ Tryz.prog 63 0) (est k b (a : Int) L u) .normal (est k b (e : Int) (L ++ [y]) (e : Int)) := by
 have hlt := Tc h;obtain ⟨body, used, h1, h2, h3⟩ := h;have hU := Lx (I := Ai) (hb.drop a) (by rw [List.length_drop]; omega)
 rw [h1] at hU;have hU : Sp Tryz.prog Ai 26 _ (.tu [c8 7, .t (bI body), ci (used : Int), ci 0]) := hU;have hD := Td h2 hk;have hA := Xj h3 (by omega)
 have hC := SI (I := Ai) (k := k) L hL y (e : Int) u;exact Rnd.nam [(2, 90)] (show Rnd _ _ _ _ _ _ ⟨[(0, .t (slI 1 ((b).map (Ad)))), (1, .cv (.one (.clo 64 [(0, 0), (1, 0)]))), (4, .i (e : Int))], [(0, some ⟨39, none, [.sl 90]⟩), (1, some ⟨3, none, [.i (e : Int)]⟩), (90, some ⟨28, some (9, ((L ++ [y])).length), Am (((L ++ [y])).map (B7 true k))⟩)], 92⟩ from rr [pk (BH 31 5 3 1 ((b).map (Ad)) ((b).length : Int)), pk (Ce 3 (a : Int) ((b).length : Int)), pk (Ay b a _ rfl (by omega)), po (hU), pa, pa, po (hD), pa, pk (hA), pom [0, 1, 2] (hC), pa]) (t := ⟨[(0, .t (slI 1 ((b).map (Ad)))), (1, .cv (.one (.clo 64 [(0, 0), (1, 0)]))), (4, .i (e : Int))], [(0, some ⟨39, none, [.sl 2]⟩), (1, some ⟨3, none, [.i (e : Int)]⟩), (2, some ⟨28, some (9, ((L ++ [y])).length), Am (((L ++ [y])).map (B7 true k))⟩)], 50⟩) ⟨rfl, TVle.refl, rfl, TVle.refl, rfl, TVle.refl, trivial⟩ ⟨rfl, rfl, rfl, ILe.refl, rfl, rfl, rfl, ILe.refl, rfl, rfl, rfl, ILe.refl, trivial⟩
theorem Rx (b : List Nat) (hb : B8 b) (hl : b.length ≤ 1000000000) (a : Nat) (ha : a ≤ b.length) (L : List Ch) (u : Int) (h : ∀ y e, ¬ jfr b a y e) :
  Rnd Tryz.prog Ai 44 (CJ Tryz.prog 63 0) (est k b (a : Int) L u) (.exit 0) (Vd k L u) ∨ Rnd Tryz.prog Ai 44 (CJ Tryz.prog 63 0) (est k b (a : Int) L u) .ret (Vd k L u) := by
 by_cases hab : a < b.length
 ·right
  have hU := Lx (I := Ai) (hb.drop a) (by rw [List.length_drop]; omega)
  have hb8 := VV (hb.drop a);have hj : ∀ body used, Be (b.drop a) = (7, body, used, 0) → ∀ y, AT y ≠ (body, 0) := fun body used h1 y h2 => h y _ ⟨body, used, h1, h2, rfl⟩
  have hbl : (Be (b.drop a)).2.1.length ≤ 1000000000 := by
   unfold Be;split
   ·simp
   ·split
    ·simp
    ·split
     ·simp
     ·split
      ·simp
      ·split
       ·simp only [List.length_take, List.length_drop]; omega
       ·simp
  generalize Be (b.drop a) = r at *;obtain ⟨kd, body, used, o⟩ := r;simp only at hU hb8 hbl;by_cases ho : o = 0
  ·subst ho
   have hU : Sp Tryz.prog Ai 26 _ (.tu [c8 (kd : Int), .t (bI body), ci (used : Int), ci 0]) := hU;by_cases hk7 : kd = 7
   ·subst hk7
    have hU : Sp Tryz.prog Ai 26 _ (.tu [c8 7, .t (bI body), ci (used : Int), ci 0]) := hU;have hD := KC hb8 (hj body used rfl);exact Rnd.nam [] (show Rnd _ _ _ _ _ _ ⟨[], [(0, some ⟨39, none, [.sl 2]⟩), (1, some ⟨3, none, [.i u]⟩), (2, some ⟨28, some (9, (L).length), Am ((L).map (B7 true k))⟩)], 83⟩ from rr [pk (BH 31 5 3 1 ((b).map (Ad)) ((b).length : Int)), pk (Ce 3 (a : Int) ((b).length : Int)), pk (Ay b a _ rfl (by omega)), po (hU), pa, pa, po (hD), pa]) (t := ⟨[], [(0, some ⟨39, none, [.sl 2]⟩), (1, some ⟨3, none, [.i u]⟩), (2, some ⟨28, some (9, (L).length), Am ((L).map (B7 true k))⟩)], 50⟩) trivial ⟨rfl, rfl, rfl, ILe.refl, rfl, rfl, rfl, ILe.refl, rfl, rfl, rfl, ILe.refl, trivial⟩
   ·have hq : (!decide ((kd : Int) = 7)) = true := by rw [decide_eq_false (by omega)]; rfl
    exact Rnd.nam [] (show Rnd _ _ _ _ _ _ ⟨[], [(0, some ⟨39, none, [.sl 2]⟩), (1, some ⟨3, none, [.i u]⟩), (2, some ⟨28, some (9, (L).length), Am ((L).map (B7 true k))⟩)], 73⟩ from rr [pk (BH 31 5 3 1 ((b).map (Ad)) ((b).length : Int)), pk (Ce 3 (a : Int) ((b).length : Int)), pk (Ay b a _ rfl (by omega)), po (hU), pa, pk (Xf 5 (kd : Int) 7 true hq)]) (t := ⟨[], [(0, some ⟨39, none, [.sl 2]⟩), (1, some ⟨3, none, [.i u]⟩), (2, some ⟨28, some (9, (L).length), Am ((L).map (B7 true k))⟩)], 50⟩) trivial ⟨rfl, rfl, rfl, ILe.refl, rfl, rfl, rfl, ILe.refl, rfl, rfl, rfl, ILe.refl, trivial⟩
  ·exact Rnd.nam [] (show Rnd _ _ _ _ _ _ ⟨[], [(0, some ⟨39, none, [.sl 2]⟩), (1, some ⟨3, none, [.i u]⟩), (2, some ⟨28, some (9, (L).length), Am ((L).map (B7 true k))⟩)], 73⟩ from rr [pk (BH 31 5 3 1 ((b).map (Ad)) ((b).length : Int)), pk (Ce 3 (a : Int) ((b).length : Int)), pk (Ay b a _ rfl (by omega)), po (hU), pk (AG 32 (o : Int) 0)]) (t := ⟨[], [(0, some ⟨39, none, [.sl 2]⟩), (1, some ⟨3, none, [.i u]⟩), (2, some ⟨28, some (9, (L).length), Am ((L).map (B7 true k))⟩)], 50⟩) trivial ⟨rfl, rfl, rfl, ILe.refl, rfl, rfl, rfl, ILe.refl, rfl, rfl, rfl, ILe.refl, trivial⟩
 ·left
  exact Rnd.nam [] (show Rnd _ _ _ _ _ _ ⟨[], [(0, some ⟨39, none, [.sl 2]⟩), (1, some ⟨3, none, [.i u]⟩), (2, some ⟨28, some (9, (L).length), Am ((L).map (B7 true k))⟩)], 54⟩ from rr [pk (BH 31 5 3 1 ((b).map (Ad)) ((b).length : Int)), pk (AF 3 (a : Int) ((b).length : Int))]) (t := ⟨[], [(0, some ⟨39, none, [.sl 2]⟩), (1, some ⟨3, none, [.i u]⟩), (2, some ⟨28, some (9, (L).length), Am ((L).map (B7 true k))⟩)], 50⟩) trivial ⟨rfl, rfl, rfl, ILe.refl, rfl, rfl, rfl, ILe.refl, rfl, rfl, rfl, ILe.refl, trivial⟩
theorem Ot {L : List Ch} {i : Nat} (h : i < L.length) : L.take (i + 1) = L.take i ++ [cat L i] := by
 rw [List.take_add_one, EC h]; rfl
theorem Rz (b : List Nat) (hb : B8 b) (hl : b.length ≤ 1000000000) {cs : List Ch} {p : Nat → Nat} (hj : Jr b cs p) (h0 : p 0 = 0) (hk : ∀ i, i < cs.length → Lq (cat cs i).q k) :
  Cr Tryz.prog Ai 44 (CJ Tryz.prog 63 0) (est k b 0 [] 0) (.exit 0) (Vd k cs (p cs.length : Int)) ∨ Cr Tryz.prog Ai 44 (CJ Tryz.prog 63 0) (est k b 0 [] 0) .ret (Vd k cs (p cs.length : Int)) := by
 have hm := hj.mono h0;have step : ∀ i, i < cs.length → Rnd Tryz.prog Ai 44 (CJ Tryz.prog 63 0) (est k b (p i : Int) (cs.take i) (p i : Int)) .normal (est k b (p (i + 1) : Int) (cs.take (i + 1)) (p (i + 1) : Int)) := fun i hi => by
  have h1 := hm i (by omega)
  have h2 := hm cs.length (Nat.le_refl _);rw [Ot hi];exact Ve b hb hl (p i) (cs.take i) (by rw [List.length_take]; omega) _ (cat cs i) _ (hj.st i hi) (hk i hi)
 have s0 : est k b (p 0 : Int) (cs.take 0) (p 0 : Int) = est k b 0 [] 0 := by rw [h0]; rfl
 have hend := Rx (k := k) b hb hl (p cs.length) (hm _ (Nat.le_refl _)).2 cs (p cs.length : Int) hj.en;rw [← s0];have e1 : est k b (p cs.length : Int) (cs.take cs.length) (p cs.length : Int) = est k b (p cs.length : Int) cs (p cs.length : Int) := by rw [List.take_length]
 rcases hend with h | h
 ·left
  exact Dx (by simp) (fun i => est k b (p i : Int) (cs.take i) (p i : Int)) cs.length step (by show Rnd _ _ _ _ (est k b (p cs.length : Int) (cs.take cs.length) (p cs.length : Int)) _ _; rw [e1]; exact h)
 ·right
  exact Dx (by simp) (fun i => est k b (p i : Int) (cs.take i) (p i : Int)) cs.length step (by show Rnd _ _ _ _ (est k b (p cs.length : Int) (cs.take cs.length) (p cs.length : Int)) _ _; rw [e1]; exact h)
theorem Ry (b : List Nat) (hb : B8 b) (hl : b.length ≤ 1000000000) {cs : List Ch} {p : Nat → Nat} (hj : Jr b cs p) (h0 : p 0 = 0) (hk : ∀ i, i < cs.length → Lq (cat cs i).q k) :
  SpM Tryz.prog Ai 63 [(0, some (lbx 2)), (1, some (ibx 0)), (2, some (cbx true k []))] [.t (bI b), .one (.clo 64 [(0, 0), (1, 0)])] [(0, some (lbx 2)), (1, some (ibx (p cs.length : Int))), (2, some (cbx true k cs))] (.tu []) := by
 have h := Rz b hb hl hj h0 hk;generalize p cs.length = u at *;rcases h with lo | lo
 ·exact sm 44 [pl (lo)]
 ·exact sm 44 [pl (lo)]
theorem SH (b : List Nat) (hb : B8 b) (hl : b.length ≤ 1000000000) {cs : List Ch} {p : Nat → Nat} (hj : Jr b cs p) (h0 : p 0 = 0) (hk : ∀ i, i < cs.length → Lq (cat cs i).q k) :
  Sp Tryz.prog Ai 24 [.t (bI b)] (.tu [.t (csI true k cs), ci (p cs.length : Int)]) := by
 have he := Ry b hb hl hj h0 hk;generalize p cs.length = u at *;exact sr 11 [⟨.upd [.i 0] 0 [.i 0] [.i 0], rfl⟩, pm ((OQ (I := Ai) (E := [(0, .t (slI 1 ((b).map (Ad)))), (2, .cv (.one (.z))), (3, .i 0), (4, .p 2 0), (5, .p 3 0)]) (B := [(3, some ⟨3, none, [.i 0]⟩)]) (k := 2) (nx := 5) (T := 39) (T2 := 28) (s := 9))), pom [2, 3, 5] (he), ⟨.part ([.sl 8]) 0 1 [.sl 8], rfl⟩, ⟨.part ([.i (u : Int)]) 0 1 [.i (u : Int)], rfl⟩, pm (AY (I := Ai) (t := 2) (k := 8) (E := [(3, .i (u : Int))]) (B := []) (nx := 13) (T := 28) (sz := 9) (n := ((cs).length)) ((cs).map (B7 true k)) rfl (by simp) Wk rfl)]
end
theorem R9 (q : Rat) : Pt q q = 0 := by unfold Pt; simp
theorem Ej (c : Bool) (k : Nat) (x : Ch) : AO Tryz.prog (.bs 39 1 [0]) [.cv (chK c k x)] (tit (csI c k [x])) :=
 X7 (e := 28) (cts := [chK c k x]) (z := [.int .i64 0, .int .i64 0, .bool false, .slice none 0 0, .bool false, .slice none 0 0, .int .i64 0, .int .i64 0, .int .i64 0]) (bytes := 104) (by kernel_rfl) (by decide) (by kernel_rfl) rfl rfl (by intro r hr; simp at hr; subst hr; rfl)
section
variable {I : WInv} {c c' : Bool} {k j : Nat} {q : Rat}
theorem U0 : Sp Tryz.prog I 55 [fc true k q, fc true j q] (lb true) := by
 have h : Sp Tryz.prog I 55 [.ag (ik k q.num ++ ik k (q.den : Int)), .ag (ik j q.num ++ ik j (q.den : Int))] (lb true) := sr 17 [po (Sl (I := I) (k := k) (j := j) (a := q.num) (b := q.num) true (decide_eq_true rfl)), po (Sl (I := I) (k := k) (j := j) (a := (q.den : Int)) (b := (q.den : Int)) true (decide_eq_true rfl))];exact h.wk ⟨BV, BV, trivial⟩
theorem XO {p : Rat} (hk : k ≤ 100) (hj : j ≤ 100) : Sp Tryz.prog I 74 [fc c k p, fc c' j q] (li (Pt p q)) := (WY (c := c) (c' := c')).wk ⟨FA hk, FA hj, trivial⟩
theorem Wh (x : Ch) (hk : k ≤ 100) (hj : j ≤ 100) : Sp Tryz.prog I 54 [chK c k x, chK c' j x] (lb true) := sr 46 [pk (Ci 3 x.kind x.kind true (decide_eq_true rfl)), pk (Ci 3 x.node x.node true (decide_eq_true rfl)), pk (Ci 3 x.fst x.fst true (decide_eq_true rfl)), pk (Ci 3 x.nxt x.nxt true (decide_eq_true rfl)), pk (Ci 3 x.cost x.cost true (decide_eq_true rfl)), po ((XO (I := I) (c := c) (c' := c') (p := x.q) (q := x.q) hk hj)), pk (Ci 3 (Pt x.q x.q) 0 true (decide_eq_true (R9 x.q)))]
def cst (k : Nat) (c : Bool) (j : Nat) (cs : List Ch) (i : Int) : Go.Proofs.YtdgbealknnmkoaaGreatDoor.St := ⟨[(0, .t (slI 9 ((cs).map (B7 true k)))), (1, .t (slI 9 ((cs).map (B7 c j)))), (5, .i i)], [], 50⟩
theorem RA (cs : List Ch) (hl : cs.length ≤ 1000000000) (hk : k ≤ 100) (hj : j ≤ 100) : Sp Tryz.prog I 17 [.t (csI true k cs), .t (csI c j cs)] (lb true) := by
 have lo : Cr Tryz.prog I 50 (CJ Tryz.prog 17 0) (cst k c j cs ((0 : Nat) : Int)) (.exit 0) ⟨[], [], 50⟩ := by
  refine Dx (by simp) (fun i => cst k c j cs (i : Int)) cs.length (fun i hi => ?_) ?_
  ·have hs := Wh (I := I) (c := true) (c' := c) (cat cs i) hk hj
   have hc := Bq (I := I) (c := c) (k := j) (p := (cat cs i).q) (by omega)
   by_cases h : (cat cs i).kind = 1
   ·exact rr [pk (BH 39 28 3 9 ((cs).map (B7 true k)) ((cs).length : Int)), pk (Ce 3 (i : Int) ((cs).length : Int)), pk (Gi 39 28 9 ((cs).map (B7 true k)) i (i : Int) ((B7 true k) (cat cs i)) (D0 hi)), pk (Gi 39 28 9 ((cs).map (B7 c j)) i (i : Int) ((B7 c j) (cat cs i)) (D0 hi)), po (hs), pa, pk (Gi 39 28 9 ((cs).map (B7 true k)) i (i : Int) ((B7 true k) (cat cs i)) (D0 hi)), pk (An 3 ((cat cs i).kind) 1), pk (Gi 39 28 9 ((cs).map (B7 true k)) i (i : Int) ((B7 true k) (cat cs i)) (D0 hi)), pk (Gi 39 28 9 ((cs).map (B7 c j)) i (i : Int) ((B7 c j) (cat cs i)) (D0 hi)), po (hc), po (U0 (I := I) (k := k) (j := j) (q := (cat cs i).q)), pa, pk (Bi 3 (i : Int) 1 ⟨by omega, by omega⟩)]
   ·exact rr [pk (BH 39 28 3 9 ((cs).map (B7 true k)) ((cs).length : Int)), pk (Ce 3 (i : Int) ((cs).length : Int)), pk (Gi 39 28 9 ((cs).map (B7 true k)) i (i : Int) ((B7 true k) (cat cs i)) (D0 hi)), pk (Gi 39 28 9 ((cs).map (B7 c j)) i (i : Int) ((B7 c j) (cat cs i)) (D0 hi)), po (hs), pa, pk (Gi 39 28 9 ((cs).map (B7 true k)) i (i : Int) ((B7 true k) (cat cs i)) (D0 hi)), pk (Ae 3 ((cat cs i).kind) 1), pk (Bi 3 (i : Int) 1 ⟨by omega, by omega⟩)]
  ·exact rr [pk (BH 39 28 3 9 ((cs).map (B7 true k)) ((cs).length : Int)), pk (AF 3 ((cs).length : Int) ((cs).length : Int))]
 exact sr 50 [pk (BH 39 28 3 9 ((cs).map (B7 true k)) ((cs).length : Int)), pk (BH 39 28 3 9 ((cs).map (B7 c j)) ((cs).length : Int)), pk (Aw 3 ((cs).length : Int) ((cs).length : Int)), pl (lo)]
end
def jby : List Ch → List Nat
 | [] => []
 | x :: r => By 7 (AT x).1 ++ jby r
theorem MA : ∀ (a b : List Ch), jby (a ++ b) = jby a ++ jby b
 | [], b => rfl
 | x :: a, b => by rw [List.cons_append, jby, jby, MA a b, List.append_assoc]
theorem M9 (x : Ch) : jby [x] = By 7 (AT x).1 := by rw [jby, jby, List.append_nil]
theorem OZ : ∀ cs : List Ch, B8 (jby cs)
 | [] => fun x hx => by cases hx
 | x :: r => (Tn x).app (OZ r)
def F7 (cs : List Ch) (i : Nat) : Nat := (jby (cs.take i)).length
theorem Rn (cs : List Ch) : F7 cs 0 = 0 := rfl
theorem KB (cs : List Ch) : F7 cs cs.length = (jby cs).length := by unfold F7; rw [List.take_length]
theorem Jd {cs : List Ch} {i : Nat} (h : i < cs.length) : F7 cs (i + 1) = F7 cs i + (By 7 (AT (cat cs i)).1).length := by
 unfold F7;rw [Ot h, MA, M9, List.length_append]
theorem LD {cs : List Ch} : ∀ {i j : Nat}, i ≤ j → j ≤ cs.length → F7 cs i ≤ F7 cs j
 | i, 0, h, _ => by rw [show i = 0 by omega]; omega
 | i, j + 1, h, hj => by
  by_cases e : i = j + 1
  ·rw [e]; omega
  ·have := LD (cs := cs) (i := i) (j := j) (by omega) (by omega)
   rw [Jd (by omega)]
   omega
theorem Te (cs : List Ch) (i : Nat) : (jby cs).drop (F7 cs i) = jby (cs.drop i) := by
 have : jby cs = jby (cs.take i) ++ jby (cs.drop i) := by rw [← MA, List.take_append_drop]
 rw [this];exact List.drop_left
theorem Tf {cs : List Ch} {i : Nat} (h : i < cs.length) : (jby cs).drop (F7 cs i) = By 7 (AT (cat cs i)).1 ++ jby (cs.drop (i + 1)) := by
 rw [Te];have : cs.drop i = cat cs i :: cs.drop (i + 1) := by
  have e := EC h;rw [List.getElem?_eq_getElem h] at e;injection e with e;rw [← e];exact List.drop_eq_getElem_cons h
 rw [this, jby]
theorem Je {x : Ch} (h : (AT x).2 = 0) : AT x = ((AT x).1, 0) := by rw [← h]
theorem Tb (cs : List Ch) (ok : ∀ x ∈ cs, (AT x).2 = 0) (k : Nat) (m : Nat) (hm : m ≤ cs.length) (h1 : F7 cs m ≤ k) (h2 : m < cs.length → k < F7 cs (m + 1)) : Jr ((jby cs).take k) (cs.take m) (F7 cs) := by
 have ok' : ∀ i, i < cs.length → (AT (cat cs i)).2 = 0 := fun i hi => ok _ (List.mem_of_getElem? (EC hi))
 have hlen : (cs.take m).length = m := by rw [List.length_take]; omega
 constructor
 ·intro i hi
  rw [hlen] at hi;have e1 : cat (cs.take m) i = cat cs i := by
   have a := EC (L := cs.take m) (i := i) (by omega)
   rw [List.getElem?_take, if_pos hi, EC (by omega)] at a
   injection a with a;exact a.symm
  rw [e1];have hk := LD (cs := cs) (i := i + 1) (j := m) (by omega) hm
  have hs := Jd (cs := cs) (i := i) (by omega)
  have ho := ok' i (by omega)
  have hl := Ey (cat cs i);refine ⟨(AT (cat cs i)).1, (By 7 (AT (cat cs i)).1).length, ?_, Je ho, hs⟩;rw [List.drop_take, Tf (by omega), List.take_append, List.take_of_length_le (by omega)]
  exact Mf 7 _ _ (by omega)
 ·rintro y e ⟨body, used, h3, _⟩
  rw [hlen, List.drop_take] at h3;by_cases hlt : m < cs.length
  ·have hs := Jd (cs := cs) (i := m) hlt
   have hl := Ey (cat cs m);have := h2 hlt;rw [Tf hlt, List.take_append_of_le_length (by omega), MQ 7 _ _ (by omega) (by omega)] at h3
   cases h3
  ·have e0 : (jby cs).drop (F7 cs m) = [] := by
    rw [show m = cs.length by omega, KB]
    exact List.drop_eq_nil_of_le (Nat.le_refl _)
   rw [e0, List.take_nil] at h3;simp [Be] at h3
theorem WG (cs : List Ch) (ok : ∀ x ∈ cs, (AT x).2 = 0) : Jr (jby cs) cs (F7 cs) := by
 have := Tb cs ok (jby cs).length cs.length (Nat.le_refl _) (by rw [KB]; exact Nat.le_refl _) (fun h => absurd h (Nat.lt_irrefl _))
 rwa [List.take_length, List.take_length] at this
def kx5 : Ch := ⟨3, 0, 0, 0, 0, 5⟩
theorem UP : AT kx5 = ([3, 0, 10], 0) := by
 have h : AP kx5 = true := by decide +kernel
 unfold AT;rw [h, if_neg (by decide), if_neg (fun h => absurd h.1 (by decide))]
 show (Aa 3 ++ Aa 0 ++ LE kx5, (0 : Int)) = _;have e : LE kx5 = Aa 10 := rfl;rw [e, Cx (by omega), Cx (by omega), Cx (by omega)]
 rfl
theorem X2 (k : Nat) (h : 0 < k) : Lq kx5.q k := ⟨F6 k, DV h, h⟩
theorem ET : Sp Tryz.prog Ai 12 [] (lb true) := by
 have e0 := UP;have hok : ∀ x ∈ [kx5], (AT x).2 = 0 := fun x hx => by rw [List.mem_singleton.1 hx, e0]
 have hlen : (jby [kx5]).length = 9 := by
  rw [M9, EV, e0];simp only [List.length_cons, List.length_nil];rw [Cx (by omega)]
  rfl
 have ha := (Ua (c := false) (k := 12) [] (by simp) kx5 (by omega)).inv RV
 have hj : Tg [] kx5 = (jby [kx5], 0) := by
  unfold Tg;rw [e0, if_pos rfl, M9, e0]
  rfl
 rw [hj] at ha;have ha := ha.wk (args' := [.one (.z), chL 3 0 0 0 5]) ⟨XLe.one K5, Pw 12 (by omega) 3 0 0 0 5, trivial⟩
 have p1 : F7 [kx5] 1 = 9 := by rw [← hlen]; exact KB [kx5]
 have hk : ∀ i, i < [kx5].length → Lq (cat [kx5] i).q 12 := fun i hi => by
  have : i = 0 := by simp at hi; exact hi
  subst this;exact X2 12 (by omega)
 have r1 := SH (k := 12) (jby [kx5]) (OZ _) (by omega) (WG [kx5] hok) rfl hk
 have hc0' := Tb [kx5] hok 8 0 (by simp) (by rw [Rn]; omega) (fun _ => by rw [p1]; omega)
 have r2 := SH (k := 12) ((jby [kx5]).take 8) ((OZ _).take 8) (by rw [List.length_take]; omega) hc0' rfl (fun i hi => by simp at hi)
 have r1 : Sp Tryz.prog Ai 24 _ (.tu [.t (csI true 12 [kx5]), ci (F7 [kx5] 1 : Int)]) := r1;rw [p1] at r1;have r2 : Sp Tryz.prog Ai 24 _ (.tu [.t (csI true 12 []), ci 0]) := r2;have hcl : [kx5].length = 1 := rfl;have h5 : (cat [kx5] 0).cost = 5 := rfl;have hc0 : 0 < [kx5].length := by decide
 have hdl : ([] : List Ch).length = 0 := rfl;generalize [kx5] = cs at *;generalize ([] : List Ch) = ds at *;generalize jby cs = b at *;exact sr 58 [po (ha), pa, pk (BH 31 5 3 1 ((b).map (Ad)) ((b).length : Int)), pk (AF 3 ((b).length : Int) 5), po (r1), pk (BH 31 5 3 1 ((b).map (Ad)) ((b).length : Int)), pk (Ou 3 ((b).length : Int) 1 ⟨by omega, by omega⟩), pk (Vu b 8 (((b).length : Int) - 1) (by omega) (by omega)), po (r2), pk (BH 39 28 3 9 ((cs).map (B7 true 12)) ((cs).length : Int)), pk (An 3 ((cs).length : Int) 1), pk (Gi 39 28 9 ((cs).map (B7 true 12)) 0 0 ((B7 true 12) (cat cs 0)) (D0 hc0)), pk (Ci 3 ((cat cs 0).cost) 5 true (decide_eq_true h5)), pk (BH 31 5 3 1 ((b).map (Ad)) ((b).length : Int)), pk (Ci 3 (9 : Int) ((b).length : Int) true (decide_eq_true (by omega))), pk (BH 39 28 3 9 ((ds).map (B7 true 12)) ((ds).length : Int)), pk (An 3 ((ds).length : Int) 0), pa]
end Go.Proofs.YtdgbealknnmkoaaGreatDoor
