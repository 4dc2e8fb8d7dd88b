/- Lemmas for the laws of this seat (part Base): each is proved for all values of its variables, under the premises that it states. -/
import Derived.WalkKit
import Derived.Lib.Hide
import Derived.WalkLawsBesides
import Derived.WalkSpells
import Derived.Below
import Derived.Laws.OwnMore
import Derived.Deep.AppendLies
import Derived.Deep.Draws
import Derived.Maps.AppendAt
import Derived.Handy
import Derived.Lib.AppendStr
import Derived.Laws.Tables
namespace Go.Proofs.YtflajoflpkboiaaGreat
open Go.RowKit

/-- The cells of a list of numbers of one kind. -/
def cellsOf (k : IntKind) (xs : List Nat) : List Value := xs.map fun x : Nat => .int k (x : Int)
theorem cellsOf_length (k : IntKind) (xs : List Nat) : (cellsOf k xs).length = xs.length := by simp [cellsOf]
theorem cellsOf_append (k : IntKind) (xs ys : List Nat) : cellsOf k (xs ++ ys) = cellsOf k xs ++ cellsOf k ys := by simp [cellsOf]
theorem cellsOf_get (k : IntKind) (xs : List Nat) (j : Nat) : (cellsOf k xs)[j]? = xs[j]?.map fun x : Nat => .int k (x : Int) := by simp [cellsOf]
theorem cellsOf_one (k : IntKind) (xs : List Nat) : ∀ u ∈ cellsOf k xs, u.oneCell' = true := by
 intro u hu
 simp only [cellsOf, List.mem_map] at hu
 obtain ⟨x, _, rfl⟩ := hu
 rfl

theorem add_lit (b off n : Nat) : (⟨b, off, none⟩ : Addr).add n = ⟨b, off + n, none⟩ := by unfold Addr.add; split <;> simp_all

/-- The slice value '.slice A n c' reads as the list xs and lies below block B. -/
def Rd (k : IntKind) (w : World) (B : Nat) (A : Option Addr) (n : Nat) (xs : List Nat) : Prop :=
 xs.length = n ∧ (0 < n → ∃ b off, A = some ⟨b, off, none⟩ ∧ b < B ∧ ∀ (j x : Nat), xs[j]? = some x → w.cell? ⟨b, off + j, none⟩ = some (.int k (x : Int)))

section
variable {k : IntKind} {w w' : World} {B B' n : Nat} {A : Option Addr} {xs : List Nat}
theorem Rd.nil : Rd k w B A 0 [] := ⟨rfl, fun h => absurd h (by omega)⟩
theorem Rd.len (h : Rd k w B A n xs) : xs.length = n := h.1
theorem Rd.at_ {j : Nat} (h : Rd k w B A n xs) (hj : j < n) : ∃ b off, A = some ⟨b, off, none⟩ ∧ b < B ∧ w.cell? ⟨b, off + j, none⟩ = some (.int k ((xs.getD j 0 : Nat) : Int)) := by
 obtain ⟨b, off, e, hb, hc⟩ := h.2 (by omega)
 have hl : j < xs.length := by have := h.1; omega
 refine ⟨b, off, e, hb, hc j _ ?_⟩
 rw [List.getD_eq_getElem?_getD, List.getElem?_eq_getElem hl]; rfl
theorem Rd.keep (h : Rd k w B A n xs) (hk : ∀ p : Addr, p.block < B → w'.cell? p = w.cell? p) : Rd k w' B A n xs :=
 ⟨h.1, fun hn => by
  obtain ⟨b, off, e, hb, hc⟩ := h.2 hn
  exact ⟨b, off, e, hb, fun j u hu => (hk _ hb).trans (hc j u hu)⟩⟩
theorem Rd.more (h : Rd k w B A n xs) (hB : B ≤ B') : Rd k w B' A n xs :=
 ⟨h.1, fun hn => by
  obtain ⟨b, off, e, hb, hc⟩ := h.2 hn
  exact ⟨b, off, e, by omega, hc⟩⟩
theorem Rd.below (h : Rd k w B A n xs) (hb : Below B w w') : Rd k w' B A n xs := h.keep fun _ hp => hb.cell hp
/-- carried over a call: from the heap as it was to the heap as it is -/
theorem Rd.call (h : Rd k w w.heap.size A n xs) (hb : Below w.heap.size w w') : Rd k w' w'.heap.size A n xs := (h.below hb).more hb.size
theorem Rd.drew (h : Rd k w B A n xs) : Rd k w.drew B A n xs := h
theorem Rd.drewN (h : Rd k w B A n xs) (m : Nat) : Rd k (w.drewN m) B A n xs := h
theorem Rd.alloc (h : Rd k w B A n xs) (hB : B ≤ w.heap.size) (o : Obj) : Rd k (w.alloc o) B A n xs := h.keep fun p hp => World.cell?_alloc_lt w o p (by omega)
theorem Rd.alloc' (h : Rd k w w.heap.size A n xs) (o : Obj) : Rd k (w.alloc o) (w.alloc o).heap.size A n xs := (h.alloc (Nat.le_refl _) o).more (by simp)
theorem Rd.setCell (h : Rd k w B A n xs) {p : Addr} (hB : B ≤ p.block) (u : Value) : Rd k (w.setCell p u) B A n xs :=
 h.keep fun q hq => World.cell?_setCell_other w p q u (fun e => by subst e; omega)
theorem Rd.grown (h : Rd k w B A n xs) {row : Option Nat} (hg : w.grownBy w' row) (hB : B ≤ w.heap.size) (hr : ∀ g, row = some g → B ≤ g) : Rd k w' B A n xs :=
 h.keep fun p hp => World.cell?_of_block (hg.block p.block (by omega) (fun e => by have := hr _ e.symm; omega))
/-- a cut x[i:j] of a slice that has an address -/
theorem Rd.sub (h : Rd k w B A n xs) {i j b off : Nat} (hA : A = some ⟨b, off, none⟩) (hij : i ≤ j) (hj : j ≤ n) : Rd k w B (some ⟨b, off + i, none⟩) (j - i) ((xs.drop i).take (j - i)) := by
 refine ⟨by rw [List.length_take, List.length_drop, h.1]; omega, fun hn => ?_⟩
 obtain ⟨b', off', e, hb, hc⟩ := h.2 (by omega)
 rw [hA] at e
 injection e with e
 injection e with e1 e2
 subst e1 e2
 refine ⟨b, off + i, rfl, hb, fun q x hx => ?_⟩
 rw [List.getElem?_take] at hx
 split at hx
 ·rw [List.getElem?_drop] at hx
  rw [Nat.add_assoc]
  exact hc _ _ hx
 ·cases hx
theorem Rd.take (h : Rd k w B A n xs) {j : Nat} (hj : j ≤ n) : Rd k w B A j (xs.take j) := by
 refine ⟨by rw [List.length_take, h.1]; omega, fun hn => ?_⟩
 obtain ⟨b', off', e, hb, hc⟩ := h.2 (by omega)
 refine ⟨b', off', e, hb, fun q x hx => ?_⟩
 rw [List.getElem?_take] at hx
 split at hx
 ·exact hc _ _ hx
 ·cases hx
end

/-- A slice that a call, begun in the world w0, has made and owns: nil, or at the head of a block of its own; it holds xs. Of what was there in w0 nothing has turned. -/
def Own (k : IntKind) (e : TypeId) (w0 w : World) (v : Value) (xs : List Nat) : Prop :=
 w.ownsRow w0.heap.size e 1 v xs.length (cellsOf k xs) ∧ Below w0.heap.size w0 w

section
variable {k : IntKind} {e : TypeId} {w0 w w' : World} {v : Value} {xs : List Nat}
theorem Own.nil (hb : Below w0.heap.size w0 w) : Own k e w0 w (.slice none 0 0) [] := ⟨World.ownsRow_nil _ _ _ _, hb⟩
theorem Own.below (h : Own k e w0 w v xs) : Below w0.heap.size w0 w := h.2
theorem Own.alloc (h : Own k e w0 w v xs) (o : Obj) : Own k e w0 (w.alloc o) v xs := ⟨h.1.alloc o, h.2.alloc h.2.size o⟩
theorem Own.drew (h : Own k e w0 w v xs) : Own k e w0 w.drew v xs := ⟨h.1, h.2.drew⟩
theorem Own.form (h : Own k e w0 w v xs) : ∃ A c, v = .slice A xs.length c ∧ Rd k w w.heap.size A xs.length xs ∧ xs.length ≤ c ∧ c ≤ 9223372036854775807 := by
 rcases h.1.2 with ⟨rfl, hn⟩ | ⟨g, cap, cur, rfl, hg, hh, hnc, hcm, hcs, ht⟩
 ·exact ⟨none, 0, by rw [hn], ⟨rfl, fun h => by omega⟩, by omega, by omega⟩
 ·refine ⟨_, cap, rfl, ⟨rfl, fun hn => ⟨g, 0, rfl, (Array.getElem?_eq_some_iff.1 hh).1, fun j x hx => ?_⟩⟩, hnc, by unfold maxLen at hcm; exact hcm⟩
  have hc := h.1.cells (g := g) rfl j (.int k (x : Int)) (by rw [cellsOf_get, hx]; rfl)
  rwa [add_lit] at hc
theorem Own.form' (h : Own k e w0 w v xs) : ∃ A n c, v = .slice A n c ∧ Rd k w w.heap.size A n xs ∧ n ≤ c ∧ c ≤ 9223372036854775807 := by
 obtain ⟨A, c, h1, h2, h3⟩ := h.form
 exact ⟨A, _, c, h1, h2, h3⟩
/-- what a callee has made is the caller's -/
theorem Own.up {w1 : World} (h : Own k e w1 w v xs) (hb : Below w0.heap.size w0 w1) : Own k e w0 w v xs := by
 refine ⟨⟨h.1.1, ?_⟩, hb.trans (h.2.mono hb.size)⟩
 rcases h.1.2 with h2 | ⟨g, cap, cur, hv, hg, r⟩
 ·exact .inl h2
 ·exact .inr ⟨g, cap, cur, hv, Nat.le_trans hb.size hg, r⟩
end

/-- what the table says of an integer type -/
def IsElem (P : Program) (k : IntKind) (e : TypeId) (bytes : Nat) : Prop := (P.info? e).map (fun i => (i.zero, i.size, i.bytes)) = some (some (.int k 0), 1, bytes)

theorem run_append_lst {P : Program} {k : IntKind} {e t ty : TypeId} {bytes : Nat} (hE : IsElem P k e bytes) (ht : P.underlying t = some (.slice e))
  {w0 w : World} {v : Value} {xs : List Nat} (hown : Own k e w0 w v xs) {A : Option Addr} {m c B : Nat} {ys : List Nat} (hr : Rd k w B A m ys) (hlen : (xs.length + m) * bytes ≤ 140737488355328) (hmax : xs.length + m ≤ 9223372036854775807) :
  ∃ v' w', (Builtin.append_ #[t, t] ty #[v, .slice A m c]).run P w = .ok v' w' ∧ Own k e w0 w' v' (xs ++ ys) ∧ w.grownBy w' v.ownBlock ∧ (v'.ownBlock = v.ownBlock ∨ v'.ownBlock = some w.heap.size) := by
 obtain ⟨i, hi, hz, hsize, hby⟩ := info_parts hE
 rcases A with _ | ad
 ·have hm : m = 0 := by
   rcases Nat.eq_zero_or_pos m with h0 | h0
   ·exact h0
   ·obtain ⟨_, _, h, _⟩ := hr.2 h0
    cases h
  subst hm
  have hn : ys = [] := List.eq_nil_of_length_eq_zero hr.1
  subst hn
  refine ⟨v, w, ?_, by simpa using hown, World.grownBy.refl w _, .inl rfl⟩
  rcases hown.1.2 with ⟨rfl, hx⟩ | ⟨g, cap, cur, rfl, _, _, hnc, _⟩
  ·simp [Builtin.append_, run_underlying ht, sizeOf, typeInfo, hi, Builtin.lenOf, Builtin.firstCells]
  ·simp [Builtin.append_, run_underlying ht, sizeOf, typeInfo, hi, Builtin.lenOf, Builtin.firstCells, hnc, storeCells]
 ·have hcells : ∀ j u, (cellsOf k ys)[j]? = some u → w.cell? (ad.add j) = some u := by
   intro j u hu
   rw [cellsOf_get] at hu
   obtain ⟨x, hx, rfl⟩ := Option.map_eq_some_iff.1 hu
   have h0 : 0 < m := by
    have := hr.1
    have := (List.getElem?_eq_some_iff.1 hx).1
    omega
   obtain ⟨b, off, h, _, hc⟩ := hr.2 h0
   injection h with h
   subst h
   rw [add_lit]
   exact hc j x hx
  obtain ⟨v', w', hrun, h2, h3, _, h5⟩ := run_append_own_at (P := P) w w0.heap.size t ty e i _ 1 bytes ht hi hz hsize hby rfl (by omega) v xs.length (cellsOf k xs) hown.1 ad m c (cellsOf k ys) (by rw [cellsOf_length, hr.1]; omega) hcells (cellsOf_one k ys) (by simp only [maxLen]; omega) hlen hown.2.size
  refine ⟨v', w', hrun, ⟨?_, hown.2.grown h3 hown.2.size (fun g hg => (hown.1.lt g hg).1)⟩, h3, h5⟩
  rw [List.length_append, hr.1, cellsOf_append]
  exact h2

theorem wp_append_lst {P : Program} {o : Oper} {a : Act} {K : Act → World → Prop} {Q : Exit → Act → World → Prop} {k : IntKind} {e t : TypeId} {bytes : Nat} (hE : IsElem P k e bytes) (ht : P.underlying t = some (.slice e))
  {w0 w : World} {v : Value} {xs : List Nat} (hown : Own k e w0 w v xs) {A : Option Addr} {m c B : Nat} {ys : List Nat} (hr : Rd k w B A m ys)
  {s x : Operand} (ho : o.op = .call { callee := .builtin .append, args := #[s, x], argTypes := #[t, t] }) (hs : a.eval s = v) (hx : a.eval x = .slice A m c)
  (hlen : (xs.length + m) * bytes ≤ 140737488355328) (hmax : xs.length + m ≤ 9223372036854775807)
  (h : ∀ v' w', Own k e w0 w' v' (xs ++ ys) → w.grownBy w' v.ownBlock → (v'.ownBlock = v.ownBlock ∨ v'.ownBlock = some w.heap.size) → K (a.put o.dst v') w') : o.wp P a w K Q := by
 obtain ⟨v', w', hrun, h2, h3, h4⟩ := run_append_lst (c := c) (ty := o.type) hE ht hown hr hlen hmax
 unfold Oper.wp execOp
 simp only [ho, resolve, invoke, builtin, Sem.run_bind, Sem.run_pure, Result.andThen_ok, List.map_toArray, List.map_cons, List.map_nil, hs, hx, hrun]
 exact h v' w' h2 h3 h4

theorem wpList_append_lst {P : Program} {ops : Array Oper} {rest : List Oper} {o : Oper} {a : Act} {Q : Exit → Act → World → Prop} {k : IntKind} {e t : TypeId} {bytes : Nat} (hE : IsElem P k e bytes) (ht : P.underlying t = some (.slice e))
  {w0 w : World} {v : Value} {xs : List Nat} (hown : Own k e w0 w v xs) {A : Option Addr} {m c B : Nat} {ys : List Nat} (hr : Rd k w B A m ys)
  (hgd : o.guard = none) {s x : Operand} (ho : o.op = .call { callee := .builtin .append, args := #[s, x], argTypes := #[t, t] }) (hs : a.eval s = v) (hx : a.eval x = .slice A m c)
  (hlen : (xs.length + m) * bytes ≤ 140737488355328) (hmax : xs.length + m ≤ 9223372036854775807)
  (h : ∀ v' w', Own k e w0 w' v' (xs ++ ys) → w.grownBy w' v.ownBlock → (v'.ownBlock = v.ownBlock ∨ v'.ownBlock = some w.heap.size) → wpList P ops Q rest (a.put o.dst v') w') : wpList P ops Q (o :: rest) a w :=
 wpList_plain hgd fun _ hK => wp_append_lst hE ht hown hr ho hs hx hlen hmax fun v' w' h2 h3 h4 => hK _ _ (h v' w' h2 h3 h4)

/-- the one-element source of 'append(s, x)' -/
theorem Rd.one (k : IntKind) (w : World) (e : TypeId) {z : Int} {y : Nat} (hz : z = (y : Int)) : Rd k (w.alloc (.cells #[.int k z] e)) (w.heap.size + 1) (some ⟨w.heap.size, 0, none⟩) 1 [y] := by
 subst hz
 refine ⟨rfl, fun _ => ⟨_, _, rfl, by omega, fun j x hx => ?_⟩⟩
 obtain ⟨hj, hx'⟩ := List.getElem?_eq_some_iff.1 hx
 simp at hj
 subst hj
 simp at hx'
 subst hx'
 simp

/-! ### bytes and strings -/
def bytesOf (s : ByteArray) : List Nat := s.data.toList.map UInt8.toNat
/-! ### a block of numbers that is known whole -/
def Buf (k : IntKind) (e : TypeId) (w : World) (g : Nat) (xs : List Nat) : Prop := w.heap[g]? = some (.cells (cellsOf k xs).toArray e (0, 0))
section
variable {k : IntKind} {e : TypeId} {w w' : World} {g : Nat} {xs : List Nat}
theorem Buf.lt (h : Buf k e w g xs) : g < w.heap.size := (Array.getElem?_eq_some_iff.1 h).1
theorem Buf.cell (h : Buf k e w g xs) {i : Nat} (hi : i < xs.length) : w.cell? ⟨g, i, none⟩ = some (.int k ((xs.getD i 0 : Nat) : Int)) := by
 have hc := cell_of_row w g i _ e (0, 0) h
 rw [hc]
 simp [cellsOf, hi, List.getD_eq_getElem?_getD]
theorem Buf.cell' (h : Buf k e w g xs) (i x : Nat) (hx : xs[i]? = some x) : w.cell? ⟨g, i, none⟩ = some (.int k (x : Int)) := by
 have hc := cell_of_row w g i _ e (0, 0) h
 rw [hc]
 simp [cellsOf, hx]
theorem Buf.frozen (h : Buf k e w g xs) (i : Nat) : w.frozen? ⟨g, i, none⟩ = false := by
 unfold Buf at h
 simp [World.frozen?, h]
theorem Buf.drew (h : Buf k e w g xs) : Buf k e w.drew g xs := h
theorem Buf.drewN (h : Buf k e w g xs) (n : Nat) : Buf k e (w.drewN n) g xs := h
theorem Buf.alloc (h : Buf k e w g xs) (o : Obj) : Buf k e (w.alloc o) g xs := (Below.heap_alloc w o g h.lt).trans h
theorem Buf.set_ (h : Buf k e w g xs) (i y : Nat) : Buf k e (w.setCell ⟨g, i, none⟩ (.int k (y : Int))) g (xs.set i y) := by
 unfold Buf at h ⊢
 simp only [World.setCell, Array.getElem?_modify, h, if_true, Option.map_some]
 congr 1
 simp [cellsOf, List.map_set]
theorem Buf.far (h : Buf k e w g xs) {p : Addr} (hp : g ≠ p.block) (u : Value) : Buf k e (w.setCell p u) g xs := (Below.heap_setCell w p u g hp).trans h
theorem Buf.below {B : Nat} (h : Buf k e w g xs) (hb : Below B w w') (hg : g < B) : Buf k e w' g xs := (hb.block g hg).trans h
theorem Buf.call (h : Buf k e w g xs) (hb : Below w.heap.size w w') : Buf k e w' g xs := (hb.block g h.lt).trans h
theorem Buf.rd (h : Buf k e w g xs) : Rd k w w.heap.size (some ⟨g, 0, none⟩) xs.length xs :=
 ⟨rfl, fun _ => ⟨g, 0, rfl, h.lt, fun j x hx => by rw [Nat.zero_add]; exact h.cell' j x hx⟩⟩
theorem Buf.own {w0 : World} (h : Buf k e w g xs) (hb : Below w0.heap.size w0 w) (hg : w0.heap.size ≤ g) (hm : xs.length ≤ maxLen) : Own k e w0 w (.slice (some ⟨g, 0, none⟩) xs.length xs.length) xs := by
 refine ⟨⟨by simp [cellsOf], .inr ⟨g, xs.length, _, rfl, hg, h, Nat.le_refl _, hm, by simp [cellsOf], ?_⟩⟩, hb⟩
 rw [Nat.mul_one]
 exact List.take_of_length_le (by simp [cellsOf])
end

theorem cells_replicate (k : IntKind) (n : Nat) : madeCells (Value.int k 0).cells (n * 1) = (cellsOf k (List.replicate n 0)).toArray := by
 apply Array.ext'
 have h := toList_madeCells_one (.int k 0) (n * 1)
 have e : (Value.int k 0).cells = #[.int k 0] := rfl
 rw [e, h]
 simp [cellsOf]

theorem wpList_make_lst {P : Program} {ops : Array Oper} {rest : List Oper} {o : Oper} {a : Act} {Q : Exit → Act → World → Prop} {k : IntKind} {e t : TypeId} {bytes : Nat} (hE : IsElem P k e bytes) (ht : P.underlying t = some (.slice e)) {w : World} {n c : Nat} {kx ky : IntKind} {x y : Operand}
  (hgd : o.guard = none) (ho : o.op = .makeSlice t x y) (hx : a.eval x = .int kx (n : Int)) (hy : a.eval y = .int ky (c : Int)) (hnc : n ≤ c) (hb : c * bytes ≤ 281474976710656) (hm : c ≤ 9223372036854775807)
  (h : ∀ w', Buf k e w' w.heap.size (List.replicate c 0) → Below w.heap.size w w' → w.heap.size < w'.heap.size → wpList P ops Q rest (a.put o.dst (.slice (some ⟨w.heap.size, 0, none⟩) n c)) w') : wpList P ops Q (o :: rest) a w := by
 obtain ⟨i, hi, hz, hsize, hby⟩ := info_parts hE
 have hb' : (i.bytes : Int) * (c : Int) ≤ 281474976710656 := by
  have h : ((i.bytes * c : Nat) : Int) ≤ 281474976710656 := by rw [hby, Nat.mul_comm]; omega
  rwa [Int.natCast_mul] at h
 have hr := run_make (P := P) w t e i (.int k 0) ht hi hz kx ky n c (by omega) (by omega) hb' (by omega)
 simp only [Int.toNat_natCast, hsize, cells_replicate] at hr
 refine wpList_plain hgd fun K hK => ?_
 unfold Oper.wp execOp
 simp only [ho, hx, hy, Sem.run_bind, hr, Sem.run_pure, Result.andThen_ok]
 exact hK _ _ (h _ (heap_alloc_new w _) ((Below.refl _ _).alloc (Nat.le_refl _) _) (by simp))

/-! ### arrays of numbers in a variable -/
theorem below_grown {B : Nat} {w0 w w' : World} {g : Nat} (h : Below B w0 w) (hg : w.grownBy w' (some g)) (hB : B ≤ w.heap.size) (hgB : B ≤ g) : Below B w0 w' :=
 h.grown hg hB (fun _ hk => by injection hk with hk; omega)
theorem Buf.grown {k : IntKind} {e : TypeId} {w w' : World} {g g' : Nat} {xs : List Nat} (h : Buf k e w g xs) (hg : w.grownBy w' (some g')) (hne : g ≠ g') : Buf k e w' g xs :=
 (hg.block g h.lt (by simpa using hne)).trans h

/-- a new block of given numbers, whatever its mark -/
theorem Rd.block (k : IntKind) (w : World) (e : TypeId) (fr : Nat × Nat) (xs : List Nat) (C : Array Value) (hC : C = (cellsOf k xs).toArray) : Rd k (w.alloc (.cells C e fr)) (w.heap.size + 1) (some ⟨w.heap.size, 0, none⟩) xs.length xs := by
 subst hC
 refine ⟨rfl, fun _ => ⟨_, _, rfl, by omega, fun j x hx => ?_⟩⟩
 rw [Nat.zero_add]
 have h : (w.alloc (.cells (cellsOf k xs).toArray e fr)).heap[w.heap.size]? = some (.cells (cellsOf k xs).toArray e fr) := heap_alloc_new w _
 rw [cell_of_row _ _ j _ e fr h]
 simp [cellsOf, hx]

theorem take_getD (xs : List Nat) (k : Nat) (h : k < xs.length) : xs.take (k + 1) = xs.take k ++ [xs.getD k 0] := by
 rw [List.take_succ_eq_append_getElem h, List.getD_eq_getElem?_getD, List.getElem?_eq_getElem h]; rfl
theorem getD_lt (xs : List Nat) (k b : Nat) (h : ∀ x ∈ xs, x < b) (hb : 0 < b) : xs.getD k 0 < b := by
 rw [List.getD_eq_getElem?_getD]
 cases e : xs[k]? with
 | none => simpa using hb
 | some y => exact h y (List.mem_of_getElem? e)

/-! ### cuts of slices -/
theorem drop_getD (xs : List Nat) (k : Nat) (h : k < xs.length) : xs.drop k = xs.getD k 0 :: xs.drop (k + 1) := by
 rw [List.drop_eq_getElem_cons h, List.getD_eq_getElem?_getD, List.getElem?_eq_getElem h]; rfl
end Go.Proofs.YtflajoflpkboiaaGreat
