/- Texts of one proof, put together by a program: each lemma is proved for all values of its variables, under the premises that it states. -/
import Derived.Test.YtdgbealknnmkoaaGreatDoorP2b125c87
import Derived.Test.YtdgbealknnmkoaaGreatDoorPdff822a5
set_option linter.unusedVariables false
set_option linter.unusedSimpArgs false
namespace Go.Proofs.YtdgbealknnmkoaaGreatDoor
open Go Go.RowKit
structure Lq (q : Rat) (k : Nat) : Prop where
 n : Lim k q.num
 d : Lim k (q.den : Int)
 k0 : 0 < k
theorem Fk.lq {q1 q2 : IntP} {n d : Int} {k : Nat} (h : Fk q1 q2 n d k) : Lq (Rat.divInt n d) k := ⟨(VF h).1, (VF h).2, h.k0⟩
theorem Lq.neg {p : Rat} {k : Nat} (h : Lq p k) : Lq (-p) k := ⟨by rw [Rat.neg_num]; exact h.n.neg, by rw [Rat.neg_den]; exact h.d, h.k0⟩
theorem Lq.int {z : Int} {k : Nat} (h : Lim k z) (k0 : 0 < k) : Lq (z : Rat) k := ⟨h, DV k0, k0⟩
abbrev Fg := Dg × Dg
abbrev W2 (p : Fg) : Prop := W32 p.1.2 ∧ W32 p.2.2
abbrev tS (xs : List Nat) : TV := BS (.string (Au xs))
abbrev cS (xs : List Nat) : CT := .one (.b (.lit (.string (Au xs))))
abbrev cu (x : Nat) : CT := .one (.b (.lit (.int .u8 (x : Int))))
def B8 (xs : List Nat) : Prop := ∀ x ∈ xs, x < 256
theorem B8.app {xs ys : List Nat} (h : B8 xs) (h' : B8 ys) : B8 (xs ++ ys) := fun x hx => (List.mem_append.1 hx).elim (h x) (h' x)
theorem B8.take {xs : List Nat} (h : B8 xs) (n : Nat) : B8 (xs.take n) := fun x hx => h x (List.mem_of_mem_take hx)
theorem B8.drop {xs : List Nat} (h : B8 xs) (n : Nat) : B8 (xs.drop n) := fun x hx => h x (List.mem_of_mem_drop hx)
theorem B8.getD {xs : List Nat} (h : B8 xs) (i : Nat) : xs.getD i 0 < 256 := by
 rw [List.getD_eq_getElem?_getD];cases hx : xs[i]? with
 | none => simp
 | some x => exact h x (List.mem_of_getElem? hx)
theorem B8.bo {xs : List Nat} (h : B8 xs) : bytesOf (Au xs) = xs := Ei xs h
theorem B6 (xs : List Nat) : (Au xs).data.toList = xs.map UInt8.ofNat := by simp [Au]
theorem O6 (xs : List Nat) (n : Nat) : (Au xs).extract 0 n = Au (xs.take n) := by
 rw [Lib.extract_eq, B6];simp [Au, List.map_take]
theorem O7 (xs : List Nat) (n : Nat) : (Au xs).extract n xs.length = Au (xs.drop n) := by
 rw [Lib.extract_eq, B6];simp only [Au, List.drop_zero, Nat.sub_zero, List.map_drop];rw [List.take_of_length_le (by simp)]
theorem ON {a b : Nat} (ha : a < 256) (hb : b < 256) : UInt8.ofNat a = UInt8.ofNat b ↔ a = b := by
 constructor
 ·intro h
  have h := congrArg UInt8.toNat h;simp only [UInt8.toNat_ofNat'] at h;omega
 ·intro h; rw [h]
theorem L0 {xs ys : List Nat} (hx : B8 xs) (hy : B8 ys) : Au xs = Au ys ↔ xs = ys := by
 constructor
 ·intro h
  have := congrArg bytesOf h
  rwa [hx.bo, hy.bo] at this
 ·intro h; rw [h]
theorem Kc {a b : ByteArray} : a.toList = b.toList ↔ a = b := by
 constructor
 ·intro h
  rw [ByteArray.toList_eq, ByteArray.toList_eq] at h;exact ByteArray.ext (Array.ext' h)
 ·intro h; rw [h]
def Cv (c : Nat) : List Nat → Option Nat
 | [] => none
 | x :: l => if x = c then some 0 else (Cv c l).map (· + 1)
theorem FS {c : Nat} : ∀ {xs : List Nat} {i : Nat}, Cv c xs = some i → i < xs.length ∧ xs.getD i 0 = c ∧ ∀ j, j < i → xs.getD j 0 ≠ c
 | [], i, h => by cases h
 | x :: l, i, h => by
  unfold Cv at h;by_cases hx : x = c
  ·rw [if_pos hx] at h
   injection h with h;subst h;exact ⟨by simp, by simpa using hx, fun j hj => by omega⟩
  ·rw [if_neg hx] at h
   obtain ⟨k, hk, rfl⟩ := Option.map_eq_some_iff.1 h;obtain ⟨h1, h2, h3⟩ := FS hk;refine ⟨by simp; omega, by simpa using h2, fun j hj => ?_⟩
   cases j with
   | zero => simpa using hx
   | succ j => simpa using h3 j (by omega)
theorem LH {c : Nat} : ∀ {xs : List Nat}, Cv c xs = none → ∀ j, j < xs.length → xs.getD j 0 ≠ c
 | [], h, j, hj => by simp at hj
 | x :: l, h, j, hj => by
  unfold Cv at h;by_cases hx : x = c
  ·rw [if_pos hx] at h; cases h
  ·rw [if_neg hx, Option.map_eq_none_iff] at h
   cases j with
   | zero => simpa using hx
   | succ j => simpa using LH h j (by simpa using hj)
theorem NJ {c : Nat} : ∀ {xs ys : List Nat}, (∀ x ∈ xs, x ≠ c) → Cv c (xs ++ c :: ys) = some xs.length
 | [], ys, h => by simp [Cv]
 | x :: l, ys, h => by
  have hx := h x (by simp)
  rw [List.cons_append, Cv, if_neg hx, NJ fun y hy => h y (by simp [hy])]
  rfl
theorem MC {c : Nat} : ∀ {xs : List Nat}, (∀ x ∈ xs, x ≠ c) → Cv c xs = none
 | [], h => rfl
 | x :: l, h => by
  rw [Cv, if_neg (h x (by simp)), MC fun y hy => h y (by simp [hy])]
  rfl
theorem KD {c : Nat} (hc : c < 256) : ∀ {xs : List Nat}, B8 xs → Lib.index (xs.map UInt8.ofNat) [UInt8.ofNat c] = match Cv c xs with | some i => (i : Int) | none => -1
 | [], h => rfl
 | x :: l, h => by
  have ih := KD hc (xs := l) fun y hy => h y (by simp [hy])
  rw [Lib.index_one] at ih ⊢;simp only [List.map_cons, Lib.indexByte];unfold Cv;by_cases hx : x = c
  ·subst hx; simp
  ·have : (UInt8.ofNat x == UInt8.ofNat c) = false := by
    rw [beq_eq_false_iff_ne];exact fun h' => hx ((ON (h x (by simp)) hc).1 h')
   rw [this, if_neg hx];rw [ih];cases Cv c l with
   | none => simp
   | some i =>
    simp only [Option.map_some];have : ((i : Int) == -1) = false := by rw [beq_eq_false_iff_ne]; omega
    simp [this]
section
variable {P : Program}
theorem AI (t ty : TypeId) (xs : List Nat) (ht : P.underlying t = some .string := by kernel_rfl) : AO P (.len #[t] ty) [tS xs] (li xs.length) := Bn (vs := [.string (Au xs)]) fun w => by
 simp [OpK.run, Builtin.len_, AB ht, goInt, AZ]
theorem Fo (t : TypeId) (xs ys : List Nat) (h : xs.length + ys.length ≤ 9223372036854775807) : AO P (.bin .add t) [tS xs, tS ys] (tS (xs ++ ys)) := by
 have := Xr (P := P) t (Au xs) (Au ys) (by rw [AZ, AZ]; exact h)
 rw [← Mm] at this;exact this
theorem PD (t : TypeId) (xs : List Nat) (n : Nat) (z : Int) (hz : z = (n : Int)) (hn : n ≤ xs.length) (ht : P.underlying t = some .string := by kernel_rfl) : AO P (.slc t false true false) [tS xs, li z] (tS (xs.take n)) := Bn (vs := [.string (Au xs), .int .i64 z]) fun w => by
 subst hz;simp [OpK.run, Instr.sliceAt, Instr.slice, Instr.sliceBounds, Instr.sliceBound, asIntOf, AB ht, AZ, hn, O6]
theorem Uq (t : TypeId) (xs : List Nat) (n : Nat) (z : Int) (hz : z = (n : Int)) (hn : n ≤ xs.length) (ht : P.underlying t = some .string := by kernel_rfl) : AO P (.slc t true false false) [tS xs, li z] (tS (xs.drop n)) := Bn (vs := [.string (Au xs), .int .i64 z]) fun w => by
 subst hz;simp [OpK.run, Instr.sliceAt, Instr.slice, Instr.sliceBounds, Instr.sliceBound, asIntOf, AB ht, AZ, hn, O7]
theorem CE (t : TypeId) (xs : List Nat) (i : Nat) (z : Int) (hz : z = (i : Int)) (hi : i < xs.length) (hx : B8 xs) (ht : P.underlying t = some .string := by kernel_rfl) : AO P (.idx t) [tS xs, li z] (BS (.int .u8 ((xs.getD i 0 : Nat) : Int))) := Bn (vs := [.string (Au xs), .int .i64 z]) fun w => by
 subst hz;have e : (Au xs)[i]? = some (UInt8.ofNat (xs.getD i 0)) := by
  show (Au xs).data[i]? = _;rw [← Array.getElem?_toList, B6, List.getElem?_map, List.getD_eq_getElem?_getD, List.getElem?_eq_getElem hi]
  rfl
 have hb := hx.getD i;generalize xs.getD i 0 = a at *;simp [OpK.run, Instr.index, asIntOf, AB ht, e];omega
theorem RW (t : TypeId) (xs ys : List Nat) (b : Bool) (h : decide (xs = ys) = b) (hx : B8 xs) (hy : B8 ys) : AO P (.bin .eql t) [tS xs, tS ys] (lb b) := Xq t _ _ b (by
 subst h;by_cases h : xs = ys
 ·subst h; simp
 ·rw [decide_eq_false h, beq_eq_false_iff_ne]
  exact fun h' => h ((L0 hx hy).1 (Kc.1 h')))
theorem Hs (t : TypeId) (xs ys : List Nat) (b : Bool) (h : decide (xs = ys) = !b) (hx : B8 xs) (hy : B8 ys) : AO P (.bin .neq t) [tS xs, tS ys] (lb b) := Xp t _ _ b (by
 rw [← h];by_cases h : xs = ys
 ·subst h; simp
 ·rw [decide_eq_false h, beq_eq_false_iff_ne]
  exact fun h' => h ((L0 hx hy).1 (Kc.1 h')))
abbrev l8 (x : Int) : TV := BS (.int .u8 x)
theorem GD (t : TypeId) (x y : Int) (b : Bool) (h : decide (x = y) = b) : AO P (.bin .eql t) [l8 x, l8 y] (lb b) := Bn (vs := [.int .u8 x, .int .u8 y]) fun w => by subst h; simp [OpK.run, eqGuard, binOp, Op.intCmp]; rfl
theorem P0 (t : TypeId) (x y : Int) (b : Bool) (h : decide (x < y) = b) : AO P (.bin .lss t) [l8 x, l8 y] (lb b) := Bn (vs := [.int .u8 x, .int .u8 y]) fun w => by subst h; simp [OpK.run, eqGuard, binOp, Op.intCmp]
theorem TY (t : TypeId) (x y : Int) (b : Bool) (h : decide (y < x) = b) : AO P (.bin .gtr t) [l8 x, l8 y] (lb b) := Bn (vs := [.int .u8 x, .int .u8 y]) fun w => by subst h; simp [OpK.run, eqGuard, binOp, Op.intCmp]
end
def fF (c : Bool) (k : Nat) (q : Rat) : Item where
 n := 4
 T := fun N w l => ∃ n d l1 l2, l = l1 ++ l2 ∧ (IP (aP k n)).T N w l1 ∧ (IP (aP k d)).T N w l2 ∧ Rat.divInt n d = q ∧ 0 < k ∧ (c = true → (IP (cP q.num)).T N w l1 ∧ (IP (cP (q.den : Int))).T N w l2)
 step := fun hw hN ⟨n, d, l1, l2, e, h1, h2, h3, h4, h5⟩ => ⟨n, d, l1, l2, e, (IP (aP k n)).step hw hN h1, (IP (aP k d)).step hw hN h2, h3, h4, fun hc => ⟨(IP _).step hw hN (h5 hc).1, (IP _).step hw hN (h5 hc).2⟩⟩
 len := fun ⟨n, d, l1, l2, e, h1, h2, _⟩ => by rw [e, List.length_append, (IP _).len h1, (IP _).len h2]; rfl
 one := fun ⟨n, d, l1, l2, e, h1, h2, _⟩ => by
  rw [e];intro v hv;rcases List.mem_append.1 hv with hv | hv
  ·exact (IP _).one h1 v hv
  ·exact (IP _).one h2 v hv
abbrev fc (c : Bool) (k : Nat) (q : Rat) : CT := .ag [.b (.it (fF c k q))]
abbrev tfc (c : Bool) (k : Nat) (q : Rat) : TV := .cv (fc c k q)
theorem VJ {c c' : Bool} {k k' : Nat} {q q' : Rat} (hc : c' = true → c = true) (hk : k ≤ k') (hq : q = q') : ItLe (fF c k q) (fF c' k' q') := by
 subst hq;rintro N w l ⟨n, d, l1, l2, e, ⟨s1, A1, n1, c1, e1, h1, h1'⟩, ⟨s2, A2, n2, c2, e2, h2, h2'⟩, h3, h4, h5⟩;exact ⟨n, d, l1, l2, e, ⟨s1, A1, n1, c1, e1, h1, Nat.le_trans h1' hk⟩, ⟨s2, A2, n2, c2, e2, h2, Nat.le_trans h2' hk⟩, h3, by omega, fun h => h5 (hc h)⟩
theorem Tr {c c' : Bool} {k k' : Nat} {q q' : Rat} (hc : c' = true → c = true) (hk : k ≤ k') (hq : q = q') : CTle (fc c k q) (fc c' k' q') := (ILe.cons (VJ hc hk hq).x ILe.refl).ag
theorem WK {c : Bool} {k k' : Nat} {q : Rat} (hk : k ≤ k') : CTle (fc c k q) (fc false k' q) := Tr (fun h => by cases h) hk rfl
theorem FA {c : Bool} {k k' : Nat} {q : Rat} (hk : k ≤ k') : CTle (fc c k q) (fc c k' q) := Tr (fun h => h) hk rfl
theorem Jf {k : Nat} {q : Rat} (h : Lq q k) : CTle (frc q) (fc true k q) := by
 rintro N w g v ⟨vs, e, hl⟩;obtain ⟨l1, l2, e2, h1, l3, l4, e3, h2, h3⟩ := hl;have h3 : l4 = [] := h3;subst h3;rw [List.append_nil] at e3;subst e3;have g1 : (IP (cP q.num)).T N w l1 := h1;have g2 : (IP (cP (q.den : Int))).T N w l2 := h2;obtain ⟨s, A, n, c, q1, q2⟩ := h1;obtain ⟨s', A', n', c', q3, q4⟩ := h2;refine ⟨vs, e, vs, [], by simp, ⟨q.num, q.den, l1, l2, e2, ⟨s, A, n, c, q1, CInt.any q2, CInt.len q2 h.n⟩, ⟨s', A', n', c', q3, CInt.any q4, CInt.len q4 h.d⟩, Bf q, h.k0, fun _ => ⟨g1, g2⟩⟩, rfl⟩
theorem Ts {k : Nat} {q : Rat} : CTle (fc true k q) (frc q) := by
 rintro N w g v ⟨vs, e, hl⟩;obtain ⟨n, d, l1, l2, e1, h1, h2, h3, h4, h5⟩ := CG hl;obtain ⟨g1, g2⟩ := h5 rfl;exact ⟨vs, e, l1, l2, e1, g1, l2, [], by simp, g2, rfl⟩
abbrev zl : List It := [.o false, .z, .o false, .z]
theorem ML (N : Nat → Prop) (w : World) {k : Nat} : (IP (aP k 0)).T N w [.bool false, .slice none 0 0] := ⟨false, none, 0, 0, rfl, (CInt.zero w).any, Nat.zero_le _⟩
theorem VU : CTle (.ag zl) (fc false 1 0) := by
 rintro N w g v ⟨vs, e, hl⟩;obtain ⟨l1, r1, e1, h1, l2, r2, e2, h2, l3, r3, e3, h3, l4, r4, e4, h4, h5⟩ := hl;have h5 : r4 = [] := h5;have h1 : l1 = [_] := h1;have h2 : l2 = [_] := h2;have h3 : l3 = [_] := h3;have h4 : l4 = [_] := h4;subst h5 h1 h2 h3 h4 e4 e3 e2 e1;exact ⟨_, e, _, [], rfl, ⟨0, 0, [.bool false, .slice none 0 0], [.bool false, .slice none 0 0], rfl, ML N w, ML N w, by rw [JT]; rfl, by omega, fun h => by cases h⟩, rfl⟩
section
variable {I : WInv} {f : FuncId} {res : TV} {c c' : Bool} {k j : Nat} {p q : Rat}
theorem Qk {N : Nat → Prop} {w : World} {v : Value} (h : (fc c k q).sem N w G0 v) : ∃ n d, Lim k n ∧ Lim k d ∧ 0 < k ∧ Rat.divInt n d = q ∧ (fr (aP k n) (aP k d)).sem N w G0 v := by
 obtain ⟨vs, e, hl⟩ := h;obtain ⟨n, d, l1, l2, e1, h1, h2, h3, h4, h5⟩ := CG hl;have g1 := h1;have g2 := h2;obtain ⟨s, A, n1, c1, q1, q2, q3⟩ := h1;obtain ⟨s', A', n2, c2, q4, q5, q6⟩ := h2;exact ⟨n, d, q2.lim.mono q3, q5.lim.mono q6, h4, h3, vs, e, l1, l2, e1, g1, l2, [], by simp, g2, rfl⟩
theorem Qd (h : ∀ n d, Fk (aP k n) (aP k d) n d k → Rat.divInt n d = q → Sp Tryz.prog I f [fr (aP k n) (aP k d)] res) (hk : k ≤ 262144) : Sp Tryz.prog I f [fc c k q] res := by
 intro N w vs hI hl hv;obtain ⟨v, r, e, h1, h2⟩ := hv;obtain ⟨n, d, a, b, k0, hq, hs⟩ := Qk h1;exact h n d ⟨OO (by omega), OO (by omega), a, b, k0, hk⟩ hq N w vs hI hl ⟨v, r, e, hs, h2⟩
theorem BC (r : Int) (hr : p.num.sign = r) (h : k ≤ 262144) : Sp Tryz.prog I 86 [fc c k p] (li r) :=
 Qd (fun n d a e => by subst e; exact Sc r a hr) h
def kP (k : Nat) (z : Int) : IntP := ⟨fun w s A n c => CInt w s A n c z ∧ n ≤ k, fun hw h => ⟨h.1.step hw, h.2⟩⟩
abbrev ik (k : Nat) (z : Int) : List It := ip (kP k z)
theorem Cl {z : Int} (h : k ≤ 1048576) : Num (ik k z) z := by
 intro N w l hl;obtain ⟨s, A, n, c, e, h1, h2⟩ := CG hl;exact ⟨s, A, n, c, e, h1.any, Nat.le_trans h2 h⟩
theorem TT {z : Int} : Can (ik k z) z := by
 intro N w l hl;obtain ⟨s, A, n, c, e, h1, h2⟩ := CG hl;exact ⟨s, A, n, c, e, h1⟩
theorem NK {z : Int} (h : Lim k z) : CTle (.ag (ic z)) (.ag (ik k z)) := by
 rintro N w g v ⟨vs, e, l1, l2, e1, ⟨s, A, n, c, e2, h1⟩, h2⟩;exact ⟨vs, e, l1, l2, e1, ⟨s, A, n, c, e2, h1, CInt.len h1 h⟩, h2⟩
theorem BV {k : Nat} {q : Rat} : CTle (fc true k q) (.ag (ik k q.num ++ ik k (q.den : Int))) := by
 rintro N w g v ⟨vs, e, hl⟩;obtain ⟨n, d, l1, l2, e1, h1, h2, h3, h4, h5⟩ := CG hl;obtain ⟨g1, g2⟩ := h5 rfl;obtain ⟨s, A, m, c, q1, q2⟩ := g1;obtain ⟨s', A', m', c', q3, q4⟩ := g2;obtain ⟨t, B, i, a, r1, r2, r3⟩ := h1;obtain ⟨t', B', i', a', r4, r5, r6⟩ := h2;rw [q1] at r1;rw [q3] at r4;injection r1 with r1 r7;injection r7 with r7 r8;injection r7 with r7 r9 r10;injection r4 with r4 r11;injection r11 with r11 r12;injection r11 with r11 r13 r14;subst r9 r13;exact ⟨vs, e, l1, l2, e1, ⟨s, A, m, c, q1, q2, r3⟩, l2, [], by simp, ⟨s', A', m', c', q3, q4, r6⟩, rfl⟩
theorem Tq {k : Nat} {q : Rat} (h : 0 < k) : CTle (.ag (ik k q.num ++ ik k (q.den : Int))) (fc true k q) := by
 rintro N w g v ⟨vs, e, hl⟩;obtain ⟨l1, l2, e2, h1, l3, l4, e3, h2, h3⟩ := hl;have h3 : l4 = [] := h3;subst h3;rw [List.append_nil] at e3;subst e3;obtain ⟨s, A, n, c, q1, q2, q5⟩ := h1;obtain ⟨s', A', n', c', q3, q4, q6⟩ := h2;exact ⟨vs, e, vs, [], by simp, ⟨q.num, q.den, l1, l2, e2, ⟨s, A, n, c, q1, CInt.any q2, q5⟩, ⟨s', A', n', c', q3, CInt.any q4, q6⟩, Bf q, h, fun _ => ⟨⟨s, A, n, c, q1, q2⟩, ⟨s', A', n', c', q3, q4⟩⟩⟩, rfl⟩
end
section
variable {I : WInv} {f : FuncId} {res : TV} {k j m : Nat} {a b : Int}
theorem Xz {N : Nat → Prop} {w : World} {g : Gh} {v : Value} (h : (CT.ag (ik k a)).sem N w g v) : Lim k a := by
 obtain ⟨vs, e, l1, l2, e1, ⟨s, A, n, c, e2, h1, h2⟩, h3⟩ := h;exact (AInt.lim h1.any).mono h2
theorem NG (h : Lim k a → Lim j b → Sp Tryz.prog I f [.ag (ik k a), .ag (ik j b)] res) : Sp Tryz.prog I f [.ag (ik k a), .ag (ik j b)] res := by
 intro N w vs hI hl hv;obtain ⟨v, r, e, h1, v2, r2, e2, h2, h3⟩ := hv;exact h (Xz h1) (Xz h2) N w vs hI hl ⟨v, r, e, h1, v2, r2, e2, h2, h3⟩
theorem XV (h1 : k + 1 ≤ m) (h2 : j + 1 ≤ m) (h : m ≤ 1048576) : Sp Tryz.prog I 145 [.ag (ik k a), .ag (ik j b)] (.cv (.ag (ik m (a + b)))) :=
 NG fun l1 l2 => (MM (Cl (by omega)) (Cl (by omega))).rs (NK (((l1.mono (by omega : k ≤ m - 1)).add (l2.mono (by omega))).mono (by omega))).tv
theorem XU (h : k + j ≤ 1048576) : Sp Tryz.prog I 146 [.ag (ik k a), .ag (ik j b)] (.cv (.ag (ik (k + j) (a * b)))) :=
 NG fun l1 l2 => (SW (Cl (by omega)) (Cl (by omega))).rs (NK (l1.mul l2)).tv
theorem VC (h1 : k + 1 ≤ m) (h2 : j + 1 ≤ m) (h : m ≤ 1048576) : Sp Tryz.prog I 188 [.ag (ik k a), .ag (ik j b)] (.cv (.ag (ik m (a + b)))) :=
 NG fun l1 l2 => (PR (Cl (by omega)) (Cl (by omega))).rs (NK (((l1.mono (by omega : k ≤ m - 1)).add (l2.mono (by omega))).mono (by omega))).tv
theorem DT (h : k + j ≤ 1048576) : Sp Tryz.prog I 112 [.ag (ik k a), .ag (ik j b)] (.cv (.ag (ik (k + j) (a * b)))) :=
 NG fun l1 l2 => (U6 (Cl (by omega)) (Cl (by omega))).rs (NK (l1.mul l2)).tv
theorem Wj (r : Int) (hr : a.sign = r) (h : k ≤ 1048576) : Sp Tryz.prog I 94 [.ag (ik k a)] (li r) := BY r (Cl h) hr
theorem VB (hk : k ≤ 1048576) (hj : j ≤ 1048576) : Sp Tryz.prog I 135 [.ag (ik k a), .ag (ik j b)] (li (Eh a b)) := UC _ (Cl hk) (Cl hj) rfl
theorem PK (a : Int) (h : R64 a) : Sp Tryz.prog I 113 [ci a] (.cv (.ag (ik 2 a))) := (EM a h.1 h.2).rs (NK (NF h)).tv
theorem Sl (r : Bool) (hr : decide (a = b) = r) : Sp Tryz.prog I 107 [.ag (ik k a), .ag (ik j b)] (lb r) := Uz r TT TT hr
theorem UZ {q : Rat} (h : Lq q k) : CTle (fc true j q) (fc true k q) := fun N w g v hv => Jf h N w g v (Ts N w g v hv)
end
section
variable {I : WInv} {c c' : Bool} {k j : Nat} {p q : Rat} {n d : Int}
theorem H9 {q1 q2 : IntP} (h1 : Num (ip q1) n) (h2 : Num (ip q2) d) (hk1 : Lim 1048576 n) (hk2 : Lim 1048576 d) : Sp Tryz.prog I 108 [.ag (ip q1), .ag (ip q2)] (tfr (Rat.divInt n d)) := by
 by_cases hd : d = 0
 ·have e : Rat.divInt n d = 0 := by subst hd; exact Rat.divInt_zero n
  rw [e];refine Sp.res (res := .cv (.ag (Lg ++ ic 1))) ?_ fun N w v h => Ls h
  exact sr 53 [po (EM 1 (by omega) (by omega)), po (BY 0 h2 (by rw [hd]; rfl))]
 ·by_cases hn : n = 0
  ·have e : Rat.divInt n d = 0 := by subst hn; exact Rat.zero_divInt d
   rw [e];refine Sp.res (res := .cv (.ag (Lg ++ ic 1))) ?_ fun N w v h => Ls h
   rcases Int.lt_or_gt_of_ne hd with hdd | hdd
   ·exact sr 53 [po (EM 1 (by omega) (by omega)), po (BY (-1) h2 (Int.sign_eq_neg_one_of_neg hdd)), po (BY 0 h1 (by rw [hn]; rfl))]
   ·exact sr 53 [po (EM 1 (by omega) (by omega)), po (BY 1 h2 (Int.sign_eq_one_of_pos hdd)), po (BY 0 h1 (by rw [hn]; rfl))]
  ·obtain ⟨sn, hsn, hs2⟩ : ∃ s, n.sign = s ∧ (s = 1 ∨ s = -1) := by
    rcases Int.lt_or_gt_of_ne hn with h | h
    ·exact ⟨_, Int.sign_eq_neg_one_of_neg h, .inr rfl⟩
    ·exact ⟨_, Int.sign_eq_one_of_pos h, .inl rfl⟩
   have ln := EQ (d := d) hk1;have ld := ES (n := n) hk2 (by omega)
   rcases Int.lt_or_gt_of_ne hd with hdd | hdd
   ·have m1 : Num (ic (-n)) (-n) := AQ hk1.neg (Nat.le_refl _)
    have m2 : Num (ic (-d)) (-d) := AQ hk2.neg (Nat.le_refl _);have hp : 0 < -d := by omega
    have hg := KG (n := -n) (d := -d) (by omega)
    have mg : Num (ic ((Nat.gcd (-n).natAbs (-d).natAbs : Nat) : Int)) _ := AQ (DW hk2.neg (by omega)) (Nat.le_refl _)
    rw [← Mv n d] at ln ld ⊢;unfold tfr frc;rw [Dm hp] at ln ⊢;rw [Dn hp] at ld ⊢;have c1 := AQ ln (Nat.le_refl _);have c2 := AQ ld (Nat.le_refl _);rcases hs2 with rfl | rfl <;> exact sr 53 [po (EM 1 (by omega) (by omega)), po (BY (-1) h2 (Int.sign_eq_neg_one_of_neg hdd)), po (BY _ h1 hsn), po (BY (-1) h2 (Int.sign_eq_neg_one_of_neg hdd)), po (Mq h1), po (Mq h2), po (PL m1 m2), po (JL m1 mg hk1.neg (DW hk2.neg (by omega)) hg), po (JL m2 mg hk2.neg (DW hk2.neg (by omega)) hg), po (Ep c1), po (Ep c2)]
   ·have hp : 0 < d := hdd
    have hg := KG (n := n) (d := d) (by omega)
    have mg : Num (ic ((Nat.gcd n.natAbs d.natAbs : Nat) : Int)) _ := AQ (DW hk2 (by omega)) (Nat.le_refl _)
    unfold tfr frc;rw [Dm hp] at ln ⊢;rw [Dn hp] at ld ⊢;have c1 := AQ ln (Nat.le_refl _);have c2 := AQ ld (Nat.le_refl _);rcases hs2 with rfl | rfl <;> exact sr 53 [po (EM 1 (by omega) (by omega)), po (BY 1 h2 (Int.sign_eq_one_of_pos hdd)), po (BY _ h1 hsn), po (BY 1 h2 (Int.sign_eq_one_of_pos hdd)), po (PL h1 h2), po (JL h1 mg hk1 (DW hk2 (by omega)) hg), po (JL h2 mg hk2 (DW hk2 (by omega)) hg), po (Ep c1), po (Ep c2)]
theorem Gw {m : Nat} {a b : Int} (hk : k ≤ m) (hj : j ≤ m) (h0 : 0 < m) (hm : m ≤ 262144) : Sp Tryz.prog I 108 [.ag (ik k a), .ag (ik j b)] (tfc true m (Rat.divInt a b)) :=
 NG fun l1 l2 => (H9 (Cl (by omega)) (Cl (by omega)) (l1.mono (by omega)) (l2.mono (by omega))).rs (Jf (Fk.lq ⟨Cl (k := k) (by omega), Cl (k := j) (by omega), l1.mono hk, l2.mono hj, h0, hm⟩)).tv
theorem Bq (h : k ≤ 262144) : Sp Tryz.prog I 56 [fc c k p] (tfc true k p) :=
 Qd (fun n d a e => by
  subst e;have r := (H9 (I := I) a.a a.b a.big.1 a.big.2).rs (Jf a.lq).tv;exact sr 8 [po (r)]) h
theorem SU (h : k ≤ 262144) : Sp Tryz.prog I 152 [fc c k p] (tfc true k (-p)) :=
 Qd (fun n d a e => by
  subst e;have r := H9 (I := I) (AQ a.ln.neg (by have := a.k1; omega)) a.b (a.ln.neg.mono (by have := a.k1; omega)) a.big.2
  have l := a.lq.neg;rw [Rat.neg_divInt] at l ⊢;have r := r.rs (Jf l).tv;exact sr 9 [po (Mq a.a), po (r)]) h
theorem DR (h : k ≤ 262144) : Sp Tryz.prog I 42 [fc c k p] (li p.num.sign) := by
 exact sr 7 [po ((Bq (I := I) (c := c) (k := k) (p := p) (by omega)).rs (BV (k := k) (q := p)).tv), po (Wj (I := I) (k := k) (a := p.num) (r := (p.num).sign) rfl (by omega))]
theorem XQ : Sp Tryz.prog I 151 [fc c 12 p, fc c' 12 q] (tfc true 25 (p + q)) := by
 have e := PQ (a := p.num) (b := (p.den : Int)) (c := q.num) (d := (q.den : Int)) (by have := p.den_pos; omega) (by have := q.den_pos; omega)
 rw [Bf, Bf] at e;rw [← e];exact sr 26 [po ((Bq (I := I) (c := c) (k := 12) (p := p) (by omega)).rs (BV (k := 12) (q := p)).tv), po ((Bq (I := I) (c := c') (k := 12) (p := q) (by omega)).rs (BV (k := 12) (q := q)).tv), po (DT (I := I) (k := 12) (j := 12) (a := p.num) (b := (q.den : Int)) (by omega)), po (DT (I := I) (k := 12) (j := 12) (a := q.num) (b := (p.den : Int)) (by omega)), po (VC (I := I) (k := 24) (j := 24) (m := 25) (a := p.num * (q.den : Int)) (b := q.num * (p.den : Int)) (by omega) (by omega) (by omega)), po (DT (I := I) (k := 12) (j := 12) (a := (p.den : Int)) (b := (q.den : Int)) (by omega)), po (Gw (I := I) (k := 25) (j := 24) (m := 25) (a := (p.num * (q.den : Int)) + (q.num * (p.den : Int))) (b := (p.den : Int) * (q.den : Int)) (by omega) (by omega) (by omega) (by omega))]
theorem XK : Sp Tryz.prog I 125 [fc c 12 p, fc c' 12 q] (tfc true 24 (p * q)) := by
 have e := PN p.num p.den q.num q.den;rw [Bf, Bf] at e;rw [← e];exact sr 20 [po ((Bq (I := I) (c := c) (k := 12) (p := p) (by omega)).rs (BV (k := 12) (q := p)).tv), po ((Bq (I := I) (c := c') (k := 12) (p := q) (by omega)).rs (BV (k := 12) (q := q)).tv), po (DT (I := I) (k := 12) (j := 12) (a := p.num) (b := q.num) (by omega)), po (DT (I := I) (k := 12) (j := 12) (a := (p.den : Int)) (b := (q.den : Int)) (by omega)), po (Gw (I := I) (k := 24) (j := 24) (m := 24) (a := p.num * q.num) (b := (p.den : Int) * (q.den : Int)) (by omega) (by omega) (by omega) (by omega))]
theorem WT : Sp Tryz.prog I 68 [fc c 12 p, fc c' 12 q] (tfc true 24 (p / q)) := by
 have e := PP p.num p.den q.num q.den;rw [Bf, Bf] at e;rw [← e];exact sr 20 [po ((Bq (I := I) (c := c) (k := 12) (p := p) (by omega)).rs (BV (k := 12) (q := p)).tv), po ((Bq (I := I) (c := c') (k := 12) (p := q) (by omega)).rs (BV (k := 12) (q := q)).tv), po (DT (I := I) (k := 12) (j := 12) (a := p.num) (b := (q.den : Int)) (by omega)), po (DT (I := I) (k := 12) (j := 12) (a := (p.den : Int)) (b := q.num) (by omega)), po (Gw (I := I) (k := 24) (j := 24) (m := 24) (a := p.num * (q.den : Int)) (b := (p.den : Int) * q.num) (by omega) (by omega) (by omega) (by omega))]
theorem Ux : (p - q).num.sign = Pt p q := by
 unfold Pt;by_cases h1 : p < q
 ·rw [if_pos h1]
  have h : ¬ 0 ≤ (p - q).num := fun h => by have := Rat.num_nonneg.1 h; grind
  exact Int.sign_eq_neg_one_of_neg (by omega)
 ·rw [if_neg h1]
  by_cases h2 : p = q
  ·rw [if_pos h2, h2, show q - q = 0 by grind]; rfl
  ·rw [if_neg h2]
   have h : ¬ 0 ≤ (-(p - q)).num := fun h => by have := Rat.num_nonneg.1 h; grind
   rw [Rat.neg_num] at h;exact Int.sign_eq_one_of_pos (by omega)
theorem G3 (a : Int) (ha : R64 a) : Sp Tryz.prog I 69 [ci a] (tfc true 2 (a : Rat)) := by
 have e : Rat.divInt a 1 = (a : Rat) := by rw [Rat.divInt_eq_div, Rat.intCast_one, Rat.div_def]; grind
 rw [← e];exact sr 7 [po (PK (I := I) a ha), po (PK (I := I) 1 ⟨by omega, by omega⟩), po (Gw (I := I) (k := 2) (j := 2) (m := 2) (a := a) (b := 1) (by omega) (by omega) (by omega) (by omega))]
end
structure Nd where
 par : Int
 fst : Int
 nxt : Int
 tog : Bool
 q : Rat
 st : Int
def tat (L : List Nd) (i : Nat) : Nd := L.getD i ⟨0, 0, 0, false, 0, 0⟩
def CN (z : Int) : Bool := decide (-288230376151711744 ≤ z) && decide (z ≤ 288230376151711744)
section
variable {I : WInv} {c : Bool}
theorem GP (z : Int) : Sp Tryz.prog I 41 [ci z] (lb (CN z)) := by
 unfold CN;by_cases h1 : -288230376151711744 ≤ z
 ·by_cases h2 : z ≤ 288230376151711744
  ·rw [decide_eq_true h1, decide_eq_true h2]
   exact sr 9 [pk (Jm 3 z (-288230376151711744)), pk (Py 3 z 288230376151711744)]
  ·rw [decide_eq_true h1, decide_eq_false h2]
   exact sr 9 [pk (Jm 3 z (-288230376151711744)), pk (Pz 3 z 288230376151711744)]
 ·rw [decide_eq_false h1]
  exact sr 9 [pk (MK 3 z (-288230376151711744))]
end
abbrev Fu (x : Int) : List It0 := [.lit (.int .i64 x)]
def iat (D : List Int) (i : Nat) : Int := D.getD i 0
theorem Ti {D : List Int} {i : Nat} (h : i < D.length) : D[i]? = some (iat D i) := by unfold iat; rw [List.getD_eq_getElem?_getD, List.getElem?_eq_getElem h]; rfl
theorem UT {D : List Int} {i : Nat} {f : Int → List It0} (h : i < D.length) : (D.map f)[i]? = some (f (iat D i)) := map_some (Ti h)
def pp (L : List Nd) (m : Nat) : Nat := (tat L (2 * m + 1)).par.toNat
def dlt (L : List Nd) : Nat → List Int
 | 0 => List.replicate L.length 0
 | m + 1 => ((dlt L m).set (2 * m + 1) (iat (dlt L m) (pp L m) + 1)).set (2 * m + 2) (iat ((dlt L m).set (2 * m + 1) (iat (dlt L m) (pp L m) + 1)) (2 * m + 1))
section
variable {P : Program} {I : WInv}
theorem Nj {N : Nat → Prop} {w : World} {b sz : Nat} {cs : Array Value} {T : TypeId} {fr : Nat × Nat} (hb : w.heap[b]? = some (.cells cs T fr)) : ∀ (rows : List (List It0)) (off : Nat), (∀ r ∈ rows, Cz r = sz) → (∀ i r, rows[i]? = some r → RowAt N w b (off + i * sz) r) → ∃ vs : List Value, vs.length = rows.length * sz ∧ CA N w rows.flatten vs ∧ (cs.toList.drop off).take vs.length = vs
 | [], off, _, _ => ⟨[], by simp, rfl, by simp⟩
 | r :: rows, off, hw, h => by
  obtain ⟨cs', T', fr', us, _, h2, h3, h4⟩ := h 0 r rfl;rw [hb] at h2;injection h2 with h2;injection h2 with e1 e2 e3;subst e1;rw [Nat.zero_mul, Nat.add_zero] at h3;have hl := FN h4;rw [hw r (by simp)] at hl
  obtain ⟨vs, k1, k2, k3⟩ := Nj hb rows (off + sz) (fun q hq => hw q (by simp [hq])) fun i q hi => by
   have := h (i + 1) q (by simpa using hi)
   rw [Nat.add_mul, Nat.one_mul] at this;rw [show off + sz + i * sz = off + (i * sz + sz) by omega]; exact this
  refine ⟨us ++ vs, by rw [List.length_append, hl, k1, List.length_cons, Nat.add_mul]; omega, ?_, ?_⟩
  ·have app : ∀ {xs ys : List It0} {l1 l2 : List Value}, CA N w xs l1 → CA N w ys l2 → CA N w (xs ++ ys) (l1 ++ l2) := by
    intro xs;induction xs with
    | nil => intro ys l1 l2 a b; rw [show l1 = [] from a]; exact b
    | cons x xs ih => rintro ys l1 l2 ⟨p, q, e, a1, a2⟩ b; exact ⟨p, q ++ l2, by rw [e, List.append_assoc], a1, ih a2 b⟩
   exact app h4 k2
  ·rw [List.length_append, List.take_add, h3, List.drop_drop, hl, k3]
theorem BT {sz : Nat} {rows : List (List It0)} (hw : ∀ r ∈ rows, Cz r = sz) (hok : (rows.flatten.map It.b).all It.okB = true) : Q1 sz (slI sz rows) rows.length rows.flatten := by
 rintro N w l ⟨A, c, e, h1, h2, h3⟩;by_cases hne : rows = []
 ·subst hne
  cases A with
  | none => exact ⟨none, c, e, .inl ⟨rfl, rfl, rfl⟩⟩
  | some a => exact ⟨some a, c, e, .inr ⟨a, [], rfl, by simp, rfl, by simp, by simp⟩⟩
 obtain ⟨b, off, rfl, hr⟩ := h3 hne;obtain ⟨r0, rs, hrows⟩ := List.exists_cons_of_ne_nil hne;obtain ⟨cs, T, fr, _, _, hb, _, _⟩ := hr 0 r0 (by rw [hrows]; rfl)
 obtain ⟨vs, k1, k2, k3⟩ := Nj hb rows off hw hr;refine ⟨_, c, e, .inr ⟨_, vs, rfl, k1, k2, CX (g := G0) (C6 k2) hok, ?_⟩⟩;intro j u hj;rw [CP];have hj' := hj;rw [← k3, List.getElem?_take] at hj;split at hj
 ·rw [List.getElem?_drop] at hj
  simp only [World.cell?, hb]; simpa using hj
 ·cases hj
theorem MH (w : World) (d : Nat) {t e : TypeId} {a : Addr} {n c : Nat} (ht : P.underlying t = some (.slice e)) : (Op.equalIn (d + 1) t (.slice (some a) n c) (.slice none 0 0)).run P w = .ok false w := by
 simp [Op.equalIn, AB ht]
end
structure Ch where
 kind : Int
 node : Int
 q : Rat
 fst : Int
 nxt : Int
 cost : Int
abbrev chT (c : Bool) (x : Ch) : CT := .ag [.i x.kind, .i x.node, .b (.it (fF c 12 x.q)), .i x.fst, .i x.nxt, .i x.cost]
def cnt (L : List Nd) : Nat → Nat → Int
 | 0, _ => 0
 | m + 1, i => if pp L m = i then cnt L m i + 2 else cnt L m i
def Bh (x m : Int) : Int := IntKind.i64.wrap ((BitVec.ofInt 64 x &&& BitVec.ofInt 64 m).toNat : Int)
def BI (x : Int) (k : Nat) : Int := x.fdiv (2 ^ k)
theorem Dy (x m : Int) (h0 : 0 ≤ m) (hm : m < 4611686018427387904) : 0 ≤ Bh x m ∧ Bh x m ≤ m := by
 obtain ⟨m, rfl⟩ := Int.eq_ofNat_of_zero_le h0;have h : (BitVec.ofInt 64 x &&& BitVec.ofInt 64 (m : Int)).toNat ≤ m := by
  rw [BitVec.toNat_and];refine Nat.le_trans Nat.and_le_right ?_;rw [BitVec.ofInt_natCast, BitVec.toNat_ofNat];exact Nat.mod_le _ _
 unfold Bh;generalize (BitVec.ofInt 64 x &&& BitVec.ofInt 64 (m : Int)).toNat = k at *;rw [IntWalk.i64_in _ ⟨by omega, by omega⟩]
 omega
section
variable {P : Program}
theorem CO (t : TypeId) (x y : Int) : AO P (.bin .and t) [li x, li y] (li (Bh x y)) := Bn (vs := [.int .i64 x, .int .i64 y]) fun w => by
 rfl
theorem EE (t : TypeId) (x : Int) (k : Nat) (hk : k ≤ 64 := by omega) : AO P (.bin .shr t) [li x, BS (.int .u64 (k : Int))] (li (BI x k)) := Bn (vs := [.int .i64 x, .int .u64 (k : Int)]) fun w => by
 have h : ¬ ((k : Int) < 0) := by omega
 simp [OpK.run, eqGuard, binOp, Op.shift, BI, h, IntKind.bits, Nat.min_eq_left hk];exact (Int.fdiv_eq_ediv_of_nonneg _ (Int.le_of_lt (Int.pow_pos (by decide)))).symm
end
def atS (l : List Int) (i : Nat) : Int := if l.length = 0 then Bh (i : Int) 65535 else Bh (iat l (i % l.length)) 65535 + ((i / l.length : Nat) : Int)
def LJ (n : Int) : Rat := Rat.divInt (Bh n 15 - 5) (1 + Bh (BI n 4) 3)
theorem X0 {z : Int} (h : -100 ≤ z) (h' : z ≤ 100) : Lim 1 z := by unfold Lim; omega
theorem To (n : Int) : Lq (LJ n) 12 := by
 have h1 := Dy n 15 (by omega) (by omega)
 have h2 := Dy (BI n 4) 3 (by omega) (by omega)
 unfold LJ;exact ⟨(EQ (X0 (by omega) (by omega))).mono (by omega), (ES (X0 (by omega) (by omega)) (by omega)).mono (by omega), by omega⟩
section
variable {I : WInv} {c c' : Bool}
theorem UX (n : Int) : Sp Tryz.prog I 27 [ci n] (tfc true 12 (LJ n)) := by
 have h1 := Dy n 15 (by omega) (by omega)
 have h2 := Dy (BI n 4) 3 (by omega) (by omega)
 have e : LJ n = (((Bh n 15 - 5 : Int)) : Rat) / (((1 + Bh (BI n 4) 3 : Int)) : Rat) := Rat.divInt_eq_div _ _;have hdiv : Sp Tryz.prog I 68 [fc true 2 (((Bh n 15 - 5 : Int)) : Rat), fc true 2 (((1 + Bh (BI n 4) 3 : Int)) : Rat)] (tfc true 12 (LJ n)) := by
  have h := (WT (I := I) (c := true) (c' := true) (p := (((Bh n 15 - 5 : Int)) : Rat)) (q := (((1 + Bh (BI n 4) 3 : Int)) : Rat))).wk (args' := [fc true 2 (((Bh n 15 - 5 : Int)) : Rat), fc true 2 (((1 + Bh (BI n 4) 3 : Int)) : Rat)]) ⟨FA (by omega), FA (by omega), trivial⟩
  rw [← e] at h;exact h.rs (UZ (To n)).tv
 exact sr 13 [pk (CO 3 n 15), pk (Ou 3 (Bh n 15) 5 ⟨by omega, by omega⟩), po (G3 (I := I) ((Bh n 15) - 5) ⟨by omega, by omega⟩), pk (EE 3 n 4), pk (CO 3 (BI n 4) 3), pk (Bi 3 1 (Bh (BI n 4) 3) ⟨by omega, by omega⟩), po (G3 (I := I) (1 + (Bh (BI n 4) 3)) ⟨by omega, by omega⟩), po (hdiv)]
theorem XB (l : List Int) (i : Nat) (hi : i ≤ 100000) (hl : l.length ≤ 35184372087808) : Sp Tryz.prog I 21 [.t (slI 1 (l.map Fu)), ci (i : Int)] (li (atS l i)) := by
 unfold atS;by_cases h0 : l.length = 0
 ·rw [if_pos h0]
  exact sr 23 [pk (BH 40 3 3 1 ((l).map (Fu)) ((l).length : Int)), pk (An 3 ((l).length : Int) 0), pk (CO 3 (i : Int) 65535)]
 ·rw [if_neg h0]
  have h1 := Dy (iat l (i % l.length)) 65535 (by omega) (by omega)
  have h2 := Nat.div_le_self i l.length;have h3 := Nat.mod_lt i (Nat.pos_of_ne_zero h0);have e1 : ((i : Int)).tmod (l.length : Int) = ((i % l.length : Nat) : Int) := by rw [Int.tmod_eq_emod_of_nonneg (by omega)]; rfl
  have e2 : ((i : Int)).tdiv (l.length : Int) = ((i / l.length : Nat) : Int) := by rw [Int.tdiv_eq_ediv_of_nonneg (by omega)]; rfl
  generalize i / l.length = q at *;have hq := e2;exact sr 23 [pk (BH 40 3 3 1 ((l).map (Fu)) ((l).length : Int)), pk (Ae 3 ((l).length : Int) 0), pk (BH 40 3 3 1 ((l).map (Fu)) ((l).length : Int)), pk (J7 3 (i : Int) (l.length : Int) (by omega)), pk (Gi 40 3 1 ((l).map (Fu)) (i % l.length) (((i : Int)).tmod ((l).length : Int)) (Fu (iat l (i % l.length))) (UT h3)), pk (CO 3 (iat l (i % l.length)) 65535), pk (BH 40 3 3 1 ((l).map (Fu)) ((l).length : Int)), pk (hq ▸ KX 3 (i : Int) (l.length : Int) (by omega) (by rw [hq]; exact ⟨by omega, by omega⟩)), pk (Bi 3 (Bh (iat l (i % l.length)) 65535) (q : Int) ⟨by omega, by omega⟩)]
end
def Xa (n : Int) : Ch :=
 if 1 + Bh n 3 = 1 then ⟨1 + Bh n 3, (BI n 2).tmod 7, LJ (BI n 4), 0, 0, 0⟩
 else if 1 + Bh n 3 = 2 then ⟨1 + Bh n 3, (BI n 2).tmod 7, 0, Bh (BI n 4) 3, Bh (BI n 6) 3, 0⟩
 else if 1 + Bh n 3 = 3 then ⟨1 + Bh n 3, 0, 0, 0, 0, Bh (BI n 4) 31 - 8⟩
 else ⟨1 + Bh n 3, (BI n 2).tmod 7, 0, 0, 0, 0⟩
theorem Ng {N : Nat → Prop} {w : World} {g : Gh} : ∀ {xs ys : List It} {l : List Value}, AX N w g (xs ++ ys) l → ∃ l1 l2, l = l1 ++ l2 ∧ AX N w g xs l1 ∧ AX N w g ys l2
 | [], _, l, h => ⟨[], l, rfl, rfl, h⟩
 | x :: xs, _, l, ⟨a, b, e, h1, h2⟩ => by
  obtain ⟨c, d, e2, h3, h4⟩ := Ng h2;exact ⟨a ++ c, d, by rw [e, e2, List.append_assoc], ⟨a, c, rfl, h1, h3⟩, h4⟩
theorem ILe.app {a a' b b' : List It} (h : ILe a a') (h' : ILe b b') : ILe (a ++ b) (a' ++ b') := fun N w g x hx => by
 obtain ⟨l1, l2, e, h1, h2⟩ := Ng hx;rw [e];exact Ck (h N w g l1 h1) (h' N w g l2 h2)
theorem VT : ILe zl [.b (.it (fF false 12 0))] := by
 intro N w g x hx;have h := WK (c := false) (k := 1) (k' := 12) (q := 0) (by omega) N w g _ (VU N w g (.agg x.toArray) ⟨x, rfl, hx⟩)
 obtain ⟨vs, e, hv⟩ := h;injection e with e;have e := congrArg Array.toList e;simp only at e;subst e;exact hv
theorem Pu {k n a b z : Value} : CTle (.ag ([.b (.lit k), .b (.lit n)] ++ (zl ++ [.b (.lit a), .b (.lit b), .b (.lit z)]))) (.ag ([.b (.lit k), .b (.lit n)] ++ ([.b (.it (fF false 12 0))] ++ [.b (.lit a), .b (.lit b), .b (.lit z)]))) := (ILe.refl.app (VT.app ILe.refl)).ag
section
variable {I : WInv} {c c' : Bool}
theorem WZ (l : List Int) (i : Nat) (hi : i ≤ 100000) (hl : l.length ≤ 35184372087808) : Sp Tryz.prog I 19 [.t (slI 1 (l.map Fu)), ci (i : Int)] (.cv (chT false (Xa (atS l i)))) := by
 have ha := XB (I := I) l i hi hl;generalize atS l i = n at *;have h3 := Dy n 3 (by omega) (by omega)
 have h31 := Dy (BI n 4) 31 (by omega) (by omega)
 unfold Xa;by_cases k1 : 1 + Bh n 3 = 1
 ·rw [if_pos k1]
  refine Sp.rs ?_ (CTle.tv (ILe.ag (ILe.cons XLe.refl (ILe.cons XLe.refl (ILe.cons (VJ (c := true) (k := 12) (fun h => by cases h) (Nat.le_refl _) rfl).x ILe.refl)))))
  exact sr 44 [po (ha), pk (CO 3 n 3), pk (Bi 3 1 (Bh n 3) ⟨by omega, by omega⟩), pk (EE 3 n 2), pk (J7 3 (BI n 2) 7 (by omega)), pk (Ci 3 (1 + (Bh n 3)) 1 true (decide_eq_true (by omega))), pk (EE 3 n 4), po (UX (I := I) (BI n 4))]
 ·rw [if_neg k1]
  by_cases k2 : 1 + Bh n 3 = 2
  ·rw [if_pos k2]
   refine Sp.rs ?_ (Pu (a := .int .i64 (Bh (BI n 4) 3)) (b := .int .i64 (Bh (BI n 6) 3)) (z := .int .i64 0)).tv;exact sr 44 [po (ha), pk (CO 3 n 3), pk (Bi 3 1 (Bh n 3) ⟨by omega, by omega⟩), pk (EE 3 n 2), pk (J7 3 (BI n 2) 7 (by omega)), pk (Ci 3 (1 + (Bh n 3)) 1 false (decide_eq_false (by omega))), pk (Ci 3 (1 + (Bh n 3)) 2 true (decide_eq_true (by omega))), pk (EE 3 n 4), pk (CO 3 (BI n 4) 3), pk (EE 3 n 6), pk (CO 3 (BI n 6) 3)]
  ·rw [if_neg k2]
   by_cases k3 : 1 + Bh n 3 = 3
   ·rw [if_pos k3]
    refine Sp.rs ?_ (Pu (a := .int .i64 0) (b := .int .i64 0) (z := .int .i64 (Bh (BI n 4) 31 - 8))).tv;exact sr 44 [po (ha), pk (CO 3 n 3), pk (Bi 3 1 (Bh n 3) ⟨by omega, by omega⟩), pk (EE 3 n 2), pk (J7 3 (BI n 2) 7 (by omega)), pk (Ci 3 (1 + (Bh n 3)) 1 false (decide_eq_false (by omega))), pk (Ci 3 (1 + (Bh n 3)) 2 false (decide_eq_false (by omega))), pk (Ci 3 (1 + (Bh n 3)) 3 true (decide_eq_true (by omega))), pk (EE 3 n 4), pk (CO 3 (BI n 4) 31), pk (Ou 3 (Bh (BI n 4) 31) 8 ⟨by omega, by omega⟩)]
   ·rw [if_neg k3]
    refine Sp.rs ?_ (Pu (a := .int .i64 0) (b := .int .i64 0) (z := .int .i64 0)).tv;exact sr 44 [po (ha), pk (CO 3 n 3), pk (Bi 3 1 (Bh n 3) ⟨by omega, by omega⟩), pk (EE 3 n 2), pk (J7 3 (BI n 2) 7 (by omega)), pk (Ci 3 (1 + (Bh n 3)) 1 false (decide_eq_false (by omega))), pk (Ci 3 (1 + (Bh n 3)) 2 false (decide_eq_false (by omega))), pk (Ci 3 (1 + (Bh n 3)) 3 false (decide_eq_false (by omega)))]
end
end Go.Proofs.YtdgbealknnmkoaaGreatDoor
