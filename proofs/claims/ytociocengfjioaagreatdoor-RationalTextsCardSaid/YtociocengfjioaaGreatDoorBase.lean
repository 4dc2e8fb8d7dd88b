/- Lemmas for the laws of this seat (part Base): each is proved for all values of its variables, under the premises that it states. -/
import Derived.WalkKit
import Derived.Lib.Hide
import Derived.WalkLawsBesides
import Derived.WalkSpells
import Derived.Below
import Derived.Laws.OwnMore
import Derived.Deep.AppendLies
import Derived.Deep.Draws
import Derived.Maps.AppendAt
import Derived.Handy
import Derived.Lib.AppendStr
import Derived.Laws.Tables
namespace Go.Proofs.YtociocengfjioaaGreatDoor
open Go.RowKit

/-- The cells of a list of numbers of one kind. -/
def cellsOf (k : IntKind) (xs : List Nat) : List Value := xs.map fun x : Nat => .int k (x : Int)
theorem cellsOf_length (k : IntKind) (xs : List Nat) : (cellsOf k xs).length = xs.length := by simp [cellsOf]
theorem cellsOf_append (k : IntKind) (xs ys : List Nat) : cellsOf k (xs ++ ys) = cellsOf k xs ++ cellsOf k ys := by simp [cellsOf]
theorem cellsOf_get (k : IntKind) (xs : List Nat) (j : Nat) : (cellsOf k xs)[j]? = xs[j]?.map fun x : Nat => .int k (x : Int) := by simp [cellsOf]
theorem cellsOf_one (k : IntKind) (xs : List Nat) : ∀ u ∈ cellsOf k xs, u.oneCell' = true := by
  intro u hu
  simp only [cellsOf, List.mem_map] at hu
  obtain ⟨x, _, rfl⟩ := hu
  rfl

theorem add_block (a : Addr) (n : Nat) : (a.add n).block = a.block := by unfold Addr.add; split <;> rfl
theorem add_lit (b off n : Nat) : (⟨b, off, none⟩ : Addr).add n = ⟨b, off + n, none⟩ := by unfold Addr.add; split <;> simp_all

/-- The slice value '.slice A n c' reads as the list xs and lies below block B. -/
def Rd (k : IntKind) (w : World) (B : Nat) (A : Option Addr) (n : Nat) (xs : List Nat) : Prop :=
  xs.length = n ∧ (0 < n → ∃ b off, A = some ⟨b, off, none⟩ ∧ b < B ∧ ∀ (j x : Nat), xs[j]? = some x → w.cell? ⟨b, off + j, none⟩ = some (.int k (x : Int)))

section
variable {k : IntKind} {w w' : World} {B B' n : Nat} {A : Option Addr} {xs : List Nat}
theorem Rd.nil : Rd k w B A 0 [] := ⟨rfl, fun h => absurd h (by omega)⟩
theorem Rd.len (h : Rd k w B A n xs) : xs.length = n := h.1
theorem Rd.at_ {j : Nat} (h : Rd k w B A n xs) (hj : j < n) : ∃ b off, A = some ⟨b, off, none⟩ ∧ b < B ∧ w.cell? ⟨b, off + j, none⟩ = some (.int k ((xs.getD j 0 : Nat) : Int)) := by
  obtain ⟨b, off, e, hb, hc⟩ := h.2 (by omega)
  have hl : j < xs.length := by have := h.1; omega
  refine ⟨b, off, e, hb, hc j _ ?_⟩
  rw [List.getD_eq_getElem?_getD, List.getElem?_eq_getElem hl]; rfl
theorem Rd.keep (h : Rd k w B A n xs) (hk : ∀ p : Addr, p.block < B → w'.cell? p = w.cell? p) : Rd k w' B A n xs :=
  ⟨h.1, fun hn => by
    obtain ⟨b, off, e, hb, hc⟩ := h.2 hn
    exact ⟨b, off, e, hb, fun j u hu => (hk _ hb).trans (hc j u hu)⟩⟩
theorem Rd.more (h : Rd k w B A n xs) (hB : B ≤ B') : Rd k w B' A n xs :=
  ⟨h.1, fun hn => by
    obtain ⟨b, off, e, hb, hc⟩ := h.2 hn
    exact ⟨b, off, e, by omega, hc⟩⟩
theorem Rd.below (h : Rd k w B A n xs) (hb : Below B w w') : Rd k w' B A n xs := h.keep fun _ hp => hb.cell hp
/-- carried over a call: from the heap as it was to the heap as it is -/
theorem Rd.call (h : Rd k w w.heap.size A n xs) (hb : Below w.heap.size w w') : Rd k w' w'.heap.size A n xs := (h.below hb).more hb.size
theorem Rd.drew (h : Rd k w B A n xs) : Rd k w.drew B A n xs := h
theorem Rd.drewN (h : Rd k w B A n xs) (m : Nat) : Rd k (w.drewN m) B A n xs := h
theorem Rd.alloc (h : Rd k w B A n xs) (hB : B ≤ w.heap.size) (o : Obj) : Rd k (w.alloc o) B A n xs := h.keep fun p hp => World.cell?_alloc_lt w o p (by omega)
theorem Rd.alloc' (h : Rd k w w.heap.size A n xs) (o : Obj) : Rd k (w.alloc o) (w.alloc o).heap.size A n xs := (h.alloc (Nat.le_refl _) o).more (by simp)
theorem Rd.setCell (h : Rd k w B A n xs) {p : Addr} (hB : B ≤ p.block) (u : Value) : Rd k (w.setCell p u) B A n xs :=
  h.keep fun q hq => World.cell?_setCell_other w p q u (fun e => by subst e; omega)
theorem Rd.grown (h : Rd k w B A n xs) {row : Option Nat} (hg : w.grownBy w' row) (hB : B ≤ w.heap.size) (hr : ∀ g, row = some g → B ≤ g) : Rd k w' B A n xs :=
  h.keep fun p hp => World.cell?_of_block (hg.block p.block (by omega) (fun e => by have := hr _ e.symm; omega))
/-- a cut x[i:j] of a slice that has an address -/
theorem Rd.sub (h : Rd k w B A n xs) {i j b off : Nat} (hA : A = some ⟨b, off, none⟩) (hij : i ≤ j) (hj : j ≤ n) : Rd k w B (some ⟨b, off + i, none⟩) (j - i) ((xs.drop i).take (j - i)) := by
  refine ⟨by rw [List.length_take, List.length_drop, h.1]; omega, fun hn => ?_⟩
  obtain ⟨b', off', e, hb, hc⟩ := h.2 (by omega)
  rw [hA] at e
  injection e with e
  injection e with e1 e2
  subst e1 e2
  refine ⟨b, off + i, rfl, hb, fun q x hx => ?_⟩
  rw [List.getElem?_take] at hx
  split at hx
  · rw [List.getElem?_drop] at hx
    rw [Nat.add_assoc]
    exact hc _ _ hx
  · cases hx
theorem Rd.take (h : Rd k w B A n xs) {j : Nat} (hj : j ≤ n) : Rd k w B A j (xs.take j) := by
  refine ⟨by rw [List.length_take, h.1]; omega, fun hn => ?_⟩
  obtain ⟨b', off', e, hb, hc⟩ := h.2 (by omega)
  refine ⟨b', off', e, hb, fun q x hx => ?_⟩
  rw [List.getElem?_take] at hx
  split at hx
  · exact hc _ _ hx
  · cases hx
end

/-- A slice that a call, begun in the world w0, has made and owns: nil, or at the head of a block of its own; it holds xs. Of what was there in w0 nothing has turned. -/
def Own (k : IntKind) (e : TypeId) (w0 w : World) (v : Value) (xs : List Nat) : Prop :=
  w.ownsRow w0.heap.size e 1 v xs.length (cellsOf k xs) ∧ Below w0.heap.size w0 w

section
variable {k : IntKind} {e : TypeId} {w0 w w' : World} {v : Value} {xs : List Nat}
theorem Own.nil (hb : Below w0.heap.size w0 w) : Own k e w0 w (.slice none 0 0) [] := ⟨World.ownsRow_nil _ _ _ _, hb⟩
theorem Own.below (h : Own k e w0 w v xs) : Below w0.heap.size w0 w := h.2
theorem Own.alloc (h : Own k e w0 w v xs) (o : Obj) : Own k e w0 (w.alloc o) v xs := ⟨h.1.alloc o, h.2.alloc h.2.size o⟩
theorem Own.drew (h : Own k e w0 w v xs) : Own k e w0 w.drew v xs := ⟨h.1, h.2.drew⟩
theorem Own.form (h : Own k e w0 w v xs) : ∃ A c, v = .slice A xs.length c ∧ Rd k w w.heap.size A xs.length xs ∧ xs.length ≤ c ∧ c ≤ 9223372036854775807 := by
  rcases h.1.2 with ⟨rfl, hn⟩ | ⟨g, cap, cur, rfl, hg, hh, hnc, hcm, hcs, ht⟩
  · exact ⟨none, 0, by rw [hn], ⟨rfl, fun h => by omega⟩, by omega, by omega⟩
  · refine ⟨_, cap, rfl, ⟨rfl, fun hn => ⟨g, 0, rfl, (Array.getElem?_eq_some_iff.1 hh).1, fun j x hx => ?_⟩⟩, hnc, by unfold maxLen at hcm; exact hcm⟩
    have hc := h.1.cells (g := g) rfl j (.int k (x : Int)) (by rw [cellsOf_get, hx]; rfl)
    rwa [add_lit] at hc
theorem Own.form' (h : Own k e w0 w v xs) : ∃ A n c, v = .slice A n c ∧ Rd k w w.heap.size A n xs ∧ n ≤ c ∧ c ≤ 9223372036854775807 := by
  obtain ⟨A, c, h1, h2, h3⟩ := h.form
  exact ⟨A, _, c, h1, h2, h3⟩
theorem Own.later (h : Own k e w0 w v xs) (hb : Below w.heap.size w w') : Own k e w0 w' v xs := by
  refine ⟨?_, h.2.trans (hb.mono h.2.size)⟩
  exact h.1.kept (row := none) ⟨hb.os, hb.tape, hb.output, hb.size, fun i hi _ => hb.block i hi⟩ (by cases v.ownBlock <;> simp)
/-- what a callee has made is the caller's -/
theorem Own.up {w1 : World} (h : Own k e w1 w v xs) (hb : Below w0.heap.size w0 w1) : Own k e w0 w v xs := by
  refine ⟨⟨h.1.1, ?_⟩, hb.trans (h.2.mono hb.size)⟩
  rcases h.1.2 with h2 | ⟨g, cap, cur, hv, hg, r⟩
  · exact .inl h2
  · exact .inr ⟨g, cap, cur, hv, Nat.le_trans hb.size hg, r⟩
end

/-- what the table says of an integer type -/
def IsElem (P : Program) (k : IntKind) (e : TypeId) (bytes : Nat) : Prop := (P.info? e).map (fun i => (i.zero, i.size, i.bytes)) = some (some (.int k 0), 1, bytes)

theorem run_append_lst {P : Program} {k : IntKind} {e t ty : TypeId} {bytes : Nat} (hE : IsElem P k e bytes) (ht : P.underlying t = some (.slice e))
    {w0 w : World} {v : Value} {xs : List Nat} (hown : Own k e w0 w v xs) {A : Option Addr} {m c B : Nat} {ys : List Nat} (hr : Rd k w B A m ys) (hlen : (xs.length + m) * bytes ≤ 140737488355328) (hmax : xs.length + m ≤ 9223372036854775807) :
    ∃ v' w', (Builtin.append_ #[t, t] ty #[v, .slice A m c]).run P w = .ok v' w' ∧ Own k e w0 w' v' (xs ++ ys) ∧ w.grownBy w' v.ownBlock ∧ (v'.ownBlock = v.ownBlock ∨ v'.ownBlock = some w.heap.size) := by
  obtain ⟨i, hi, hz, hsize, hby⟩ := info_parts hE
  rcases A with _ | ad
  · have hm : m = 0 := by
      rcases Nat.eq_zero_or_pos m with h0 | h0
      · exact h0
      · obtain ⟨_, _, h, _⟩ := hr.2 h0
        cases h
    subst hm
    have hn : ys = [] := List.eq_nil_of_length_eq_zero hr.1
    subst hn
    refine ⟨v, w, ?_, by simpa using hown, World.grownBy.refl w _, .inl rfl⟩
    rcases hown.1.2 with ⟨rfl, hx⟩ | ⟨g, cap, cur, rfl, _, _, hnc, _⟩
    · simp [Builtin.append_, run_underlying ht, sizeOf, typeInfo, hi, Builtin.lenOf, Builtin.firstCells]
    · simp [Builtin.append_, run_underlying ht, sizeOf, typeInfo, hi, Builtin.lenOf, Builtin.firstCells, hnc, storeCells]
  · have hcells : ∀ j u, (cellsOf k ys)[j]? = some u → w.cell? (ad.add j) = some u := by
      intro j u hu
      rw [cellsOf_get] at hu
      obtain ⟨x, hx, rfl⟩ := Option.map_eq_some_iff.1 hu
      have h0 : 0 < m := by
        have := hr.1
        have := (List.getElem?_eq_some_iff.1 hx).1
        omega
      obtain ⟨b, off, h, _, hc⟩ := hr.2 h0
      injection h with h
      subst h
      rw [add_lit]
      exact hc j x hx
    obtain ⟨v', w', hrun, h2, h3, _, h5⟩ := run_append_own_at (P := P) w w0.heap.size t ty e i _ 1 bytes ht hi hz hsize hby rfl (by omega) v xs.length (cellsOf k xs) hown.1 ad m c (cellsOf k ys) (by rw [cellsOf_length, hr.1]; omega) hcells (cellsOf_one k ys) (by simp only [maxLen]; omega) hlen hown.2.size
    refine ⟨v', w', hrun, ⟨?_, hown.2.grown h3 hown.2.size (fun g hg => (hown.1.lt g hg).1)⟩, h3, h5⟩
    rw [List.length_append, hr.1, cellsOf_append]
    exact h2

theorem wp_append_lst {P : Program} {o : Oper} {a : Act} {K : Act → World → Prop} {Q : Exit → Act → World → Prop} {k : IntKind} {e t : TypeId} {bytes : Nat} (hE : IsElem P k e bytes) (ht : P.underlying t = some (.slice e))
    {w0 w : World} {v : Value} {xs : List Nat} (hown : Own k e w0 w v xs) {A : Option Addr} {m c B : Nat} {ys : List Nat} (hr : Rd k w B A m ys)
    {s x : Operand} (ho : o.op = .call { callee := .builtin .append, args := #[s, x], argTypes := #[t, t] }) (hs : a.eval s = v) (hx : a.eval x = .slice A m c)
    (hlen : (xs.length + m) * bytes ≤ 140737488355328) (hmax : xs.length + m ≤ 9223372036854775807)
    (h : ∀ v' w', Own k e w0 w' v' (xs ++ ys) → w.grownBy w' v.ownBlock → (v'.ownBlock = v.ownBlock ∨ v'.ownBlock = some w.heap.size) → K (a.put o.dst v') w') : o.wp P a w K Q := by
  obtain ⟨v', w', hrun, h2, h3, h4⟩ := run_append_lst (c := c) (ty := o.type) hE ht hown hr hlen hmax
  unfold Oper.wp execOp
  simp only [ho, resolve, invoke, builtin, Sem.run_bind, Sem.run_pure, Result.andThen_ok, List.map_toArray, List.map_cons, List.map_nil, hs, hx, hrun]
  exact h v' w' h2 h3 h4

theorem wpList_append_lst {P : Program} {ops : Array Oper} {rest : List Oper} {o : Oper} {a : Act} {Q : Exit → Act → World → Prop} {k : IntKind} {e t : TypeId} {bytes : Nat} (hE : IsElem P k e bytes) (ht : P.underlying t = some (.slice e))
    {w0 w : World} {v : Value} {xs : List Nat} (hown : Own k e w0 w v xs) {A : Option Addr} {m c B : Nat} {ys : List Nat} (hr : Rd k w B A m ys)
    (hgd : o.guard = none) {s x : Operand} (ho : o.op = .call { callee := .builtin .append, args := #[s, x], argTypes := #[t, t] }) (hs : a.eval s = v) (hx : a.eval x = .slice A m c)
    (hlen : (xs.length + m) * bytes ≤ 140737488355328) (hmax : xs.length + m ≤ 9223372036854775807)
    (h : ∀ v' w', Own k e w0 w' v' (xs ++ ys) → w.grownBy w' v.ownBlock → (v'.ownBlock = v.ownBlock ∨ v'.ownBlock = some w.heap.size) → wpList P ops Q rest (a.put o.dst v') w') : wpList P ops Q (o :: rest) a w :=
  wpList_plain hgd fun _ hK => wp_append_lst hE ht hown hr ho hs hx hlen hmax fun v' w' h2 h3 h4 => hK _ _ (h v' w' h2 h3 h4)

/-- the one-element source of 'append(s, x)' -/
theorem Rd.one (k : IntKind) (w : World) (e : TypeId) {z : Int} {y : Nat} (hz : z = (y : Int)) : Rd k (w.alloc (.cells #[.int k z] e)) (w.heap.size + 1) (some ⟨w.heap.size, 0, none⟩) 1 [y] := by
  subst hz
  refine ⟨rfl, fun _ => ⟨_, _, rfl, by omega, fun j x hx => ?_⟩⟩
  obtain ⟨hj, hx'⟩ := List.getElem?_eq_some_iff.1 hx
  simp at hj
  subst hj
  simp at hx'
  subst hx'
  simp

/-! ### bytes and strings -/
def bytesOf (s : ByteArray) : List Nat := s.data.toList.map UInt8.toNat
def strOf (xs : List Nat) : ByteArray := ⟨(xs.map UInt8.ofNat).toArray⟩
theorem bytesOf_length (s : ByteArray) : (bytesOf s).length = s.size := by
  rw [bytesOf, List.length_map, Array.length_toList]; rfl
theorem strOf_size (xs : List Nat) : (strOf xs).size = xs.length := by
  show ((xs.map UInt8.ofNat).toArray).size = _
  simp
theorem bytesOf_lt (s : ByteArray) : ∀ x ∈ bytesOf s, x < 256 := by
  intro x hx
  simp only [bytesOf, List.mem_map] at hx
  obtain ⟨b, _, rfl⟩ := hx
  exact b.toNat_lt
theorem bytesOf_strOf (xs : List Nat) (h : ∀ x ∈ xs, x < 256) : bytesOf (strOf xs) = xs := by
  unfold bytesOf strOf
  simp only [List.map_map]
  conv => rhs; rw [← List.map_id xs]
  apply List.map_congr_left
  intro x hx
  have := h x hx
  simp
  omega
theorem strOf_bytesOf (s : ByteArray) : strOf (bytesOf s) = s := by
  unfold bytesOf strOf
  apply ByteArray.ext
  apply Array.ext'
  simp [List.map_map, Function.comp_def]
theorem strOf_append (xs ys : List Nat) : strOf (xs ++ ys) = strOf xs ++ strOf ys := by
  apply ByteArray.ext
  simp [strOf, ByteArray.data_append]
theorem strCells_eq (s : ByteArray) : Lib.strCells s = cellsOf .u8 (bytesOf s) := by
  simp [Lib.strCells, cellsOf, bytesOf, Function.comp_def]

theorem foldl_push (ns : List Nat) : ∀ r : ByteArray, (ns.map (fun x : Nat => (x : Int))).foldl (fun r n => r.push (UInt8.ofNat n.toNat)) r = r ++ strOf ns := by
  induction ns with
  | nil => intro r; apply ByteArray.ext; simp [strOf]
  | cons n ns ih =>
    intro r
    rw [List.map_cons, List.foldl_cons, ih]
    apply ByteArray.ext
    simp [strOf, ByteArray.data_append, ByteArray.data_push, Int.toNat_natCast]

theorem run_loadCells_rd {P : Program} {k : IntKind} {w : World} {B n : Nat} {b off : Nat} {xs : List Nat} (hr : Rd k w B (some ⟨b, off, none⟩) n xs) :
    (loadCells ⟨b, off, none⟩ n).run P w = .ok (cellsOf k xs).toArray w := by
  have h := run_loadCells_list (P := P) w ⟨b, off, none⟩ (cellsOf k xs) (by
    intro j u hu
    rw [cellsOf_get] at hu
    obtain ⟨x, hx, rfl⟩ := Option.map_eq_some_iff.1 hu
    have h0 : 0 < n := by
      have := hr.1
      have := (List.getElem?_eq_some_iff.1 hx).1
      omega
    obtain ⟨b', off', e, _, hc⟩ := hr.2 h0
    injection e with e
    injection e with e1 e2
    subst e1 e2
    rw [add_lit]
    exact hc j x hx)
  rw [cellsOf_length, hr.1] at h
  exact h

/-- 'string(b)', whatever slice of bytes b is. -/
theorem run_string_rd {P : Program} {src dst e : TypeId} (hs : P.underlying src = some (.slice e)) (he : P.underlying e = some (.int .u8)) (hd : P.underlying dst = some .string)
    {w : World} {B n c : Nat} {A : Option Addr} {xs : List Nat} (hr : Rd .u8 w B A n xs) : (convert src dst (.slice A n c)).run P w = .ok (.string (strOf xs)) w := by
  rw [run_convert_bytes_string w src dst e A n c hs he hd]
  rcases A with _ | ad
  · have hm : n = 0 := by
      rcases Nat.eq_zero_or_pos n with h0 | h0
      · exact h0
      · obtain ⟨_, _, h, _⟩ := hr.2 h0
        cases h
    subst hm
    have hn : xs = [] := List.eq_nil_of_length_eq_zero hr.1
    subst hn
    rfl
  · rcases Nat.eq_zero_or_pos n with h0 | h0
    · subst h0
      have hn : xs = [] := List.eq_nil_of_length_eq_zero hr.1
      subst hn
      have := run_bytesToString (P := P) w ad 0 c [] (run_loadCells_list (P := P) w ad [] (by simp))
      rw [this]
      rfl
    · obtain ⟨b, off, h, _, _⟩ := hr.2 h0
      injection h with h
      subst h
      have h := run_bytesToString (P := P) w ⟨b, off, none⟩ n c (xs.map fun x : Nat => (x : Int)) (by
        rw [run_loadCells_rd hr]; simp [cellsOf, Function.comp_def])
      rw [h, foldl_push]
      congr 2

theorem wpList_string_rd {P : Program} {ops : Array Oper} {rest : List Oper} {o : Oper} {a : Act} {Q : Exit → Act → World → Prop} {src dst e : TypeId} (hs : P.underlying src = some (.slice e)) (he : P.underlying e = some (.int .u8)) (hd : P.underlying dst = some .string)
    {w : World} {B n c : Nat} {A : Option Addr} {xs : List Nat} (hr : Rd .u8 w B A n xs) (hgd : o.guard = none) {x : Operand} (ho : o.op = .convert src dst x) (hx : a.eval x = .slice A n c)
    (h : wpList P ops Q rest (a.put o.dst (.string (strOf xs))) w) : wpList P ops Q (o :: rest) a w := by
  refine wpList_plain hgd fun K hK => ?_
  unfold Oper.wp execOp
  simp only [ho, hx, Sem.run_bind, run_string_rd (c := c) hs he hd hr, Sem.run_pure, Result.andThen_ok]
  exact hK _ _ h

theorem wpList_append_str {P : Program} {ops : Array Oper} {rest : List Oper} {o : Oper} {a : Act} {Q : Exit → Act → World → Prop} {e t u : TypeId} (hE : IsElem P .u8 e 1) (ht : P.underlying t = some (.slice e)) (hu : P.underlying u = some .string)
    {w0 w : World} {v : Value} {xs : List Nat} (hown : Own .u8 e w0 w v xs) {st : ByteArray}
    (hgd : o.guard = none) {s x : Operand} (ho : o.op = .call { callee := .builtin .append, args := #[s, x], argTypes := #[t, u] }) (hs : a.eval s = v) (hx : a.eval x = .string st)
    (hlen : xs.length + st.size ≤ 140737488355328)
    (h : ∀ v' w', Own .u8 e w0 w' v' (xs ++ bytesOf st) → w.grownBy w' v.ownBlock → wpList P ops Q rest (a.put o.dst v') w') : wpList P ops Q (o :: rest) a w := by
  obtain ⟨i, hi, hz, hsize, hby⟩ := info_parts hE
  refine Lib.wpList_append_own_string w hgd s x t u ho w0.heap.size e i ht hu hi hz hsize hby v xs.length (cellsOf .u8 xs) hs hown.1 st hx (by simp only [maxLen]; omega) hlen hown.2.size ?_
  intro v' w' h2 h3 _
  refine h v' w' ⟨?_, hown.2.grown h3 hown.2.size (fun g hg => (hown.1.lt g hg).1)⟩ h3
  rw [List.length_append, bytesOf_length, cellsOf_append, ← strCells_eq]
  exact h2

/-! ### a block of numbers that is known whole -/
def Buf (k : IntKind) (e : TypeId) (w : World) (g : Nat) (xs : List Nat) : Prop := w.heap[g]? = some (.cells (cellsOf k xs).toArray e (0, 0))
section
variable {k : IntKind} {e : TypeId} {w w' : World} {g : Nat} {xs : List Nat}
theorem Buf.lt (h : Buf k e w g xs) : g < w.heap.size := (Array.getElem?_eq_some_iff.1 h).1
theorem Buf.cell (h : Buf k e w g xs) {i : Nat} (hi : i < xs.length) : w.cell? ⟨g, i, none⟩ = some (.int k ((xs.getD i 0 : Nat) : Int)) := by
  have hc := cell_of_row w g i _ e (0, 0) h
  rw [hc]
  simp [cellsOf, hi, List.getD_eq_getElem?_getD]
theorem Buf.cell' (h : Buf k e w g xs) (i x : Nat) (hx : xs[i]? = some x) : w.cell? ⟨g, i, none⟩ = some (.int k (x : Int)) := by
  have hc := cell_of_row w g i _ e (0, 0) h
  rw [hc]
  simp [cellsOf, hx]
theorem Buf.frozen (h : Buf k e w g xs) (i : Nat) : w.frozen? ⟨g, i, none⟩ = false := by
  unfold Buf at h
  simp [World.frozen?, h]
theorem Buf.drew (h : Buf k e w g xs) : Buf k e w.drew g xs := h
theorem Buf.drewN (h : Buf k e w g xs) (n : Nat) : Buf k e (w.drewN n) g xs := h
theorem Buf.alloc (h : Buf k e w g xs) (o : Obj) : Buf k e (w.alloc o) g xs := (Below.heap_alloc w o g h.lt).trans h
theorem Buf.set_ (h : Buf k e w g xs) (i y : Nat) : Buf k e (w.setCell ⟨g, i, none⟩ (.int k (y : Int))) g (xs.set i y) := by
  unfold Buf at h ⊢
  simp only [World.setCell, Array.getElem?_modify, h, if_true, Option.map_some]
  congr 1
  simp [cellsOf, List.map_set]
theorem Buf.far (h : Buf k e w g xs) {p : Addr} (hp : g ≠ p.block) (u : Value) : Buf k e (w.setCell p u) g xs := (Below.heap_setCell w p u g hp).trans h
theorem Buf.below {B : Nat} (h : Buf k e w g xs) (hb : Below B w w') (hg : g < B) : Buf k e w' g xs := (hb.block g hg).trans h
theorem Buf.call (h : Buf k e w g xs) (hb : Below w.heap.size w w') : Buf k e w' g xs := (hb.block g h.lt).trans h
theorem Buf.rd (h : Buf k e w g xs) : Rd k w w.heap.size (some ⟨g, 0, none⟩) xs.length xs :=
  ⟨rfl, fun _ => ⟨g, 0, rfl, h.lt, fun j x hx => by rw [Nat.zero_add]; exact h.cell' j x hx⟩⟩
theorem Buf.own {w0 : World} (h : Buf k e w g xs) (hb : Below w0.heap.size w0 w) (hg : w0.heap.size ≤ g) (hm : xs.length ≤ maxLen) : Own k e w0 w (.slice (some ⟨g, 0, none⟩) xs.length xs.length) xs := by
  refine ⟨⟨by simp [cellsOf], .inr ⟨g, xs.length, _, rfl, hg, h, Nat.le_refl _, hm, by simp [cellsOf], ?_⟩⟩, hb⟩
  rw [Nat.mul_one]
  exact List.take_of_length_le (by simp [cellsOf])
end

theorem cells_replicate (k : IntKind) (n : Nat) : madeCells (Value.int k 0).cells (n * 1) = (cellsOf k (List.replicate n 0)).toArray := by
  apply Array.ext'
  have h := toList_madeCells_one (.int k 0) (n * 1)
  have e : (Value.int k 0).cells = #[.int k 0] := rfl
  rw [e, h]
  simp [cellsOf]

theorem wpList_make_lst {P : Program} {ops : Array Oper} {rest : List Oper} {o : Oper} {a : Act} {Q : Exit → Act → World → Prop} {k : IntKind} {e t : TypeId} {bytes : Nat} (hE : IsElem P k e bytes) (ht : P.underlying t = some (.slice e)) {w : World} {n c : Nat} {kx ky : IntKind} {x y : Operand}
    (hgd : o.guard = none) (ho : o.op = .makeSlice t x y) (hx : a.eval x = .int kx (n : Int)) (hy : a.eval y = .int ky (c : Int)) (hnc : n ≤ c) (hb : c * bytes ≤ 281474976710656) (hm : c ≤ 9223372036854775807)
    (h : ∀ w', Buf k e w' w.heap.size (List.replicate c 0) → Below w.heap.size w w' → w.heap.size < w'.heap.size → wpList P ops Q rest (a.put o.dst (.slice (some ⟨w.heap.size, 0, none⟩) n c)) w') : wpList P ops Q (o :: rest) a w := by
  obtain ⟨i, hi, hz, hsize, hby⟩ := info_parts hE
  have hb' : (i.bytes : Int) * (c : Int) ≤ 281474976710656 := by
    have h : ((i.bytes * c : Nat) : Int) ≤ 281474976710656 := by rw [hby, Nat.mul_comm]; omega
    rwa [Int.natCast_mul] at h
  have hr := run_make (P := P) w t e i (.int k 0) ht hi hz kx ky n c (by omega) (by omega) hb' (by omega)
  simp only [Int.toNat_natCast, hsize, cells_replicate] at hr
  refine wpList_plain hgd fun K hK => ?_
  unfold Oper.wp execOp
  simp only [ho, hx, hy, Sem.run_bind, hr, Sem.run_pure, Result.andThen_ok]
  exact hK _ _ (h _ (heap_alloc_new w _) ((Below.refl _ _).alloc (Nat.le_refl _) _) (by simp))

/-! ### arrays of numbers in a variable -/
theorem wpList_alloc_arr {P : Program} {ops : Array Oper} {rest : List Oper} {o : Oper} {a : Act} {Q : Exit → Act → World → Prop} {k : IntKind} {ty : TypeId} {xs : List Nat} {w : World}
    (hz : (zeroValue ty).run P w = .ok (.agg (cellsOf k xs).toArray) w) (hgd : o.guard = none) (ho : o.op = .alloc ty)
    (h : ∀ w', Buf k ty w' w.heap.size xs → Below w.heap.size w w' → w.heap.size < w'.heap.size → wpList P ops Q rest (a.put o.dst (.pointer (some ⟨w.heap.size, 0, none⟩))) w') : wpList P ops Q (o :: rest) a w := by
  refine wpList_plain hgd fun K hK => ?_
  have hr : (Instr.alloc ty true (.tuple #[])).run P w = .ok (.pointer (some ⟨w.heap.size, 0, none⟩)) (w.alloc (.cells (cellsOf k xs).toArray ty)) := by
    simp only [Instr.alloc, Sem.run_bind, hz, Result.andThen_ok]
    rfl
  unfold Oper.wp execOp
  simp only [ho, Sem.run_bind, hr, Sem.run_pure, Result.andThen_ok]
  exact hK _ _ (h _ (heap_alloc_new w _) ((Below.refl _ _).alloc (Nat.le_refl _) _) (by simp))

theorem cellsOf_all (k : IntKind) (xs : List Nat) : (cellsOf k xs).toArray.all (·.oneCell') = true := by
  rw [Array.all_eq_true_iff_forall_mem]
  intro x hx
  exact cellsOf_one k xs x (by simpa using hx)

theorem wpList_load_buf {P : Program} {ops : Array Oper} {rest : List Oper} {o : Oper} {a : Act} {Q : Exit → Act → World → Prop} {k : IntKind} {e ty : TypeId} {w : World} {g : Nat} {xs : List Nat} {d : TypeDesc} (hb : Buf k e w g xs)
    (hu : P.underlying ty = some d) (hd : (match d with | .struct _ | .array _ _ => true | _ => false) = true) (hi : (P.info? ty).map (·.size) = some xs.length)
    (hgd : o.guard = none) {x : Operand} (ho : o.op = .load ty x) (hx : a.eval x = .pointer (some ⟨g, 0, none⟩))
    (h : wpList P ops Q rest (a.put o.dst (.agg (cellsOf k xs).toArray)) w) : wpList P ops Q (o :: rest) a w :=
  wpList_load_row hgd ty x ho g hx e _ (0, 0) d hb hu hd (by rw [hi]; simp [cellsOf]) h

theorem wpList_store_buf {P : Program} {ops : Array Oper} {rest : List Oper} {o : Oper} {a : Act} {Q : Exit → Act → World → Prop} {k : IntKind} {e ty : TypeId} {w : World} {g : Nat} {xs ys : List Nat} (hb : Buf k e w g xs) (hl : xs.length = ys.length)
    (hi : (P.info? ty).map (·.size) = some ys.length) (hgd : o.guard = none) {x y : Operand} (ho : o.op = .store ty x y) (hx : a.eval x = .pointer (some ⟨g, 0, none⟩)) (hy : a.eval y = .agg (cellsOf k ys).toArray)
    (h : ∀ w', Buf k e w' g ys → w.grownBy w' (some g) → w'.heap.size = w.heap.size → wpList P ops Q rest (a.put o.dst undef) w') : wpList P ops Q (o :: rest) a w := by
  refine wpList_store_row hgd ty x y ho g _ hx hy e _ hb (by rw [hi]; simp [cellsOf]) (by simp [cellsOf, hl]) (cellsOf_all k ys) (h _ ?_ ?_ ?_)
  · exact setRow_heap w g _ _ e _ hb
  · exact ⟨rfl, rfl, rfl, by simp, fun j _ hj => setRow_other w g j _ (fun e => hj (by simp [e]))⟩
  · simp

theorem below_grown {B : Nat} {w0 w w' : World} {g : Nat} (h : Below B w0 w) (hg : w.grownBy w' (some g)) (hB : B ≤ w.heap.size) (hgB : B ≤ g) : Below B w0 w' :=
  h.grown hg hB (fun _ hk => by injection hk with hk; omega)
theorem Buf.grown {k : IntKind} {e : TypeId} {w w' : World} {g g' : Nat} {xs : List Nat} (h : Buf k e w g xs) (hg : w.grownBy w' (some g')) (hne : g ≠ g') : Buf k e w' g xs :=
  (hg.block g h.lt (by simpa using hne)).trans h

/-- a new block of given numbers, whatever its mark -/
theorem Rd.block (k : IntKind) (w : World) (e : TypeId) (fr : Nat × Nat) (xs : List Nat) (C : Array Value) (hC : C = (cellsOf k xs).toArray) : Rd k (w.alloc (.cells C e fr)) (w.heap.size + 1) (some ⟨w.heap.size, 0, none⟩) xs.length xs := by
  subst hC
  refine ⟨rfl, fun _ => ⟨_, _, rfl, by omega, fun j x hx => ?_⟩⟩
  rw [Nat.zero_add]
  have h : (w.alloc (.cells (cellsOf k xs).toArray e fr)).heap[w.heap.size]? = some (.cells (cellsOf k xs).toArray e fr) := heap_alloc_new w _
  rw [cell_of_row _ _ j _ e fr h]
  simp [cellsOf, hx]

theorem take_getD (xs : List Nat) (k : Nat) (h : k < xs.length) : xs.take (k + 1) = xs.take k ++ [xs.getD k 0] := by
  rw [List.take_succ_eq_append_getElem h, List.getD_eq_getElem?_getD, List.getElem?_eq_getElem h]; rfl
theorem getD_lt (xs : List Nat) (k b : Nat) (h : ∀ x ∈ xs, x < b) (hb : 0 < b) : xs.getD k 0 < b := by
  rw [List.getD_eq_getElem?_getD]
  cases e : xs[k]? with
  | none => simpa using hb
  | some y => exact h y (List.mem_of_getElem? e)

/-! ### cuts of slices -/
theorem Rd.sliced {k : IntKind} {w : World} {B n : Nat} {A : Option Addr} {xs : List Nat} (h : Rd k w B A n xs) {l j m : Nat} (hl : l ≤ j) (hj : j ≤ n) (hm : j ≤ m) :
    ∃ A', sliced A l j m 1 = .slice A' (j - l) (m - l) ∧ Rd k w B A' (j - l) ((xs.drop l).take (j - l)) := by
  by_cases e : m = l
  · obtain rfl : j = l := by omega
    refine ⟨_, rfl, by simp, fun h0 => by omega⟩
  · refine ⟨_, rfl, by rw [List.length_take, List.length_drop, h.1]; omega, fun hn => ?_⟩
    obtain ⟨b, off, rfl, hb, hc⟩ := h.2 (by omega)
    rw [if_neg e]
    refine ⟨b, off + l, by simp [add_lit], hb, fun q x hx => ?_⟩
    rw [List.getElem?_take] at hx
    split at hx
    · rw [List.getElem?_drop] at hx
      rw [Nat.add_assoc]
      exact hc _ _ hx
    · cases hx
theorem run_elemSize {P : Program} {k : IntKind} {e t : TypeId} {bytes : Nat} (hE : IsElem P k e bytes) (ht : P.underlying t = some (.slice e)) (w : World) : P.underlying t = some (.slice (P.elem t)) ∧ (sizeOf (P.elem t)).run P w = .ok 1 w := by
  have he : P.elem t = e := by simp [Program.elem, ht]
  obtain ⟨i, hi, _, hs, _⟩ := info_parts hE
  rw [he]
  exact ⟨ht, by simp [sizeOf, typeInfo, hi, hs]⟩
theorem wpList_cut_lh {P : Program} {ops : Array Oper} {rest : List Oper} {o : Oper} {a : Act} {Q : Exit → Act → World → Prop} {k : IntKind} {e t : TypeId} {bytes : Nat} (hE : IsElem P k e bytes) (ht : P.underlying t = some (.slice e))
    {w : World} {B n c : Nat} {A : Option Addr} {xs : List Nat} (hr : Rd k w B A n xs) {x lo hi : Operand} {klo khi : IntKind} {l j : Nat} (hgd : o.guard = none) (ho : o.op = .slice t x (some lo) (some hi) none) (hx : a.eval x = .slice A n c) (hlo : a.eval lo = .int klo (l : Int)) (hhi : a.eval hi = .int khi (j : Int)) (h1 : l ≤ j) (h2 : j ≤ n) (h3 : n ≤ c)
    (h : ∀ A', Rd k w B A' (j - l) ((xs.drop l).take (j - l)) → wpList P ops Q rest (a.put o.dst (.slice A' (j - l) (c - l))) w) : wpList P ops Q (o :: rest) a w := by
  refine wpList_plain hgd fun K hK => ?_
  obtain ⟨h5, h6⟩ := run_elemSize hE ht w
  obtain ⟨A', hs, hr'⟩ := hr.sliced (l := l) (j := j) (m := c) (by omega) (by omega) (by omega)
  have hrun := run_slice_lh (P := P) w t A n c h5 klo khi (l : Int) (j : Int) (by omega) (by omega) (by omega)
  simp only [Int.toNat_natCast, h6, Result.andThen_ok, hs] at hrun
  have hrun2 := (run_sliceAt_slice (P := P) w t (.slice A n c) (some (.int klo (l : Int))) (some (.int khi (j : Int))) none h5).trans hrun
  unfold Oper.wp execOp
  simp only [ho, hx, hlo, hhi, Option.map_some, Option.map_none, Sem.run_bind, hrun2, Sem.run_pure, Result.andThen_ok]
  refine hK _ _ ?_
  exact h A' hr'
theorem wpList_cut_h {P : Program} {ops : Array Oper} {rest : List Oper} {o : Oper} {a : Act} {Q : Exit → Act → World → Prop} {k : IntKind} {e t : TypeId} {bytes : Nat} (hE : IsElem P k e bytes) (ht : P.underlying t = some (.slice e))
    {w : World} {B n c : Nat} {A : Option Addr} {xs : List Nat} (hr : Rd k w B A n xs) {x hi : Operand} {khi : IntKind} {j : Nat} (hgd : o.guard = none) (ho : o.op = .slice t x none (some hi) none) (hx : a.eval x = .slice A n c) (hhi : a.eval hi = .int khi (j : Int)) (h2 : j ≤ n) (h3 : n ≤ c)
    (h : ∀ A', Rd k w B A' j (xs.take j) → wpList P ops Q rest (a.put o.dst (.slice A' (j) (c))) w) : wpList P ops Q (o :: rest) a w := by
  refine wpList_plain hgd fun K hK => ?_
  obtain ⟨h5, h6⟩ := run_elemSize hE ht w
  obtain ⟨A', hs, hr'⟩ := hr.sliced (l := 0) (j := j) (m := c) (by omega) (by omega) (by omega)
  have hrun := run_slice_h (P := P) w t A n c h5 khi (j : Int) (by omega) (by omega)
  simp only [Int.toNat_natCast, h6, Result.andThen_ok, hs] at hrun
  have hrun2 := (run_sliceAt_slice (P := P) w t (.slice A n c) none (some (.int khi (j : Int))) none h5).trans hrun
  unfold Oper.wp execOp
  simp only [ho, hx, hhi, Option.map_some, Option.map_none, Sem.run_bind, hrun2, Sem.run_pure, Result.andThen_ok]
  refine hK _ _ ?_
  simp only [Nat.sub_zero, List.drop_zero] at hr' ⊢
  exact h A' hr'
theorem wpList_cut_l {P : Program} {ops : Array Oper} {rest : List Oper} {o : Oper} {a : Act} {Q : Exit → Act → World → Prop} {k : IntKind} {e t : TypeId} {bytes : Nat} (hE : IsElem P k e bytes) (ht : P.underlying t = some (.slice e))
    {w : World} {B n c : Nat} {A : Option Addr} {xs : List Nat} (hr : Rd k w B A n xs) {x lo : Operand} {klo : IntKind} {l : Nat} (hgd : o.guard = none) (ho : o.op = .slice t x (some lo) none none) (hx : a.eval x = .slice A n c) (hlo : a.eval lo = .int klo (l : Int)) (h1 : l ≤ n) (h3 : n ≤ c)
    (h : ∀ A', Rd k w B A' (n - l) (xs.drop l) → wpList P ops Q rest (a.put o.dst (.slice A' (n - l) (c - l))) w) : wpList P ops Q (o :: rest) a w := by
  refine wpList_plain hgd fun K hK => ?_
  obtain ⟨h5, h6⟩ := run_elemSize hE ht w
  obtain ⟨A', hs, hr'⟩ := hr.sliced (l := l) (j := n) (m := c) (by omega) (by omega) (by omega)
  have hrun := run_slice_l (P := P) w t A n c h5 klo (l : Int) (by omega) (by omega)
  simp only [Int.toNat_natCast, h6, Result.andThen_ok, hs] at hrun
  have hrun2 := (run_sliceAt_slice (P := P) w t (.slice A n c) (some (.int klo (l : Int))) none none h5).trans hrun
  unfold Oper.wp execOp
  simp only [ho, hx, hlo, Option.map_some, Option.map_none, Sem.run_bind, hrun2, Sem.run_pure, Result.andThen_ok]
  refine hK _ _ ?_
  rw [List.take_of_length_le (by rw [List.length_drop, hr.1]; omega)] at hr'
  exact h A' hr'
theorem wpList_cut_lhm {P : Program} {ops : Array Oper} {rest : List Oper} {o : Oper} {a : Act} {Q : Exit → Act → World → Prop} {k : IntKind} {e t : TypeId} {bytes : Nat} (hE : IsElem P k e bytes) (ht : P.underlying t = some (.slice e))
    {w : World} {B n c : Nat} {A : Option Addr} {xs : List Nat} (hr : Rd k w B A n xs) {x lo hi mx : Operand} {klo khi kmx : IntKind} {l j m : Nat} (hgd : o.guard = none) (ho : o.op = .slice t x (some lo) (some hi) (some mx)) (hx : a.eval x = .slice A n c) (hlo : a.eval lo = .int klo (l : Int)) (hhi : a.eval hi = .int khi (j : Int)) (hmx : a.eval mx = .int kmx (m : Int)) (h1 : l ≤ j) (h2 : j ≤ n) (h3 : j ≤ m) (h4 : m ≤ c)
    (h : ∀ A', Rd k w B A' (j - l) ((xs.drop l).take (j - l)) → wpList P ops Q rest (a.put o.dst (.slice A' (j - l) (m - l))) w) : wpList P ops Q (o :: rest) a w := by
  refine wpList_plain hgd fun K hK => ?_
  obtain ⟨h5, h6⟩ := run_elemSize hE ht w
  obtain ⟨A', hs, hr'⟩ := hr.sliced (l := l) (j := j) (m := m) (by omega) (by omega) (by omega)
  have hrun := run_slice_lhm (P := P) w t A n c h5 klo khi kmx (l : Int) (j : Int) (m : Int) (by omega) (by omega) (by omega) (by omega)
  simp only [Int.toNat_natCast, h6, Result.andThen_ok, hs] at hrun
  have hrun2 := (run_sliceAt_slice (P := P) w t (.slice A n c) (some (.int klo (l : Int))) (some (.int khi (j : Int))) (some (.int kmx (m : Int))) h5).trans hrun
  unfold Oper.wp execOp
  simp only [ho, hx, hlo, hhi, hmx, Option.map_some, Sem.run_bind, hrun2, Sem.run_pure, Result.andThen_ok]
  refine hK _ _ ?_
  exact h A' hr'
theorem wpList_cut_hm {P : Program} {ops : Array Oper} {rest : List Oper} {o : Oper} {a : Act} {Q : Exit → Act → World → Prop} {k : IntKind} {e t : TypeId} {bytes : Nat} (hE : IsElem P k e bytes) (ht : P.underlying t = some (.slice e))
    {w : World} {B n c : Nat} {A : Option Addr} {xs : List Nat} (hr : Rd k w B A n xs) {x hi mx : Operand} {khi kmx : IntKind} {j m : Nat} (hgd : o.guard = none) (ho : o.op = .slice t x none (some hi) (some mx)) (hx : a.eval x = .slice A n c) (hhi : a.eval hi = .int khi (j : Int)) (hmx : a.eval mx = .int kmx (m : Int)) (h2 : j ≤ n) (h3 : j ≤ m) (h4 : m ≤ c)
    (h : ∀ A', Rd k w B A' j (xs.take j) → wpList P ops Q rest (a.put o.dst (.slice A' (j) (m))) w) : wpList P ops Q (o :: rest) a w := by
  refine wpList_plain hgd fun K hK => ?_
  obtain ⟨h5, h6⟩ := run_elemSize hE ht w
  obtain ⟨A', hs, hr'⟩ := hr.sliced (l := 0) (j := j) (m := m) (by omega) (by omega) (by omega)
  have hrun := run_slice_hm (P := P) w t A n c h5 khi kmx (j : Int) (m : Int) (by omega) (by omega) (by omega)
  simp only [Int.toNat_natCast, h6, Result.andThen_ok, hs] at hrun
  have hrun2 := (run_sliceAt_slice (P := P) w t (.slice A n c) none (some (.int khi (j : Int))) (some (.int kmx (m : Int))) h5).trans hrun
  unfold Oper.wp execOp
  simp only [ho, hx, hhi, hmx, Option.map_some, Option.map_none, Sem.run_bind, hrun2, Sem.run_pure, Result.andThen_ok]
  refine hK _ _ ?_
  simp only [Nat.sub_zero, List.drop_zero] at hr' ⊢
  exact h A' hr'

theorem below_grown_nil {w w' : World} (g : w.grownBy w' (Value.slice none 0 0).ownBlock) : Below w.heap.size w w' :=
  (Below.refl _ _).grown g (Nat.le_refl _) (fun _ h => by simp [Value.ownBlock] at h)
theorem below_app2 {w2 w3 w4 : World} {v3 : Value} (g3 : w2.grownBy w3 (Value.slice none 0 0).ownBlock) (a3 : v3.ownBlock = (Value.slice none 0 0).ownBlock ∨ v3.ownBlock = some w2.heap.size) (g4 : w3.grownBy w4 v3.ownBlock) : Below w2.heap.size w2 w4 :=
  (below_grown_nil g3).grown g4 g3.size (fun k hk => by
    rcases a3 with e | e <;> rw [e] at hk
    · simp [Value.ownBlock] at hk
    · injection hk with hk
      omega)

theorem Buf.ownTake {k : IntKind} {e : TypeId} {w0 w : World} {g : Nat} {xs : List Nat} (h : Buf k e w g xs) (hb : Below w0.heap.size w0 w) (hg : w0.heap.size ≤ g) (hm : xs.length ≤ maxLen) {n : Nat} (hn : n ≤ xs.length) :
    Own k e w0 w (.slice (some ⟨g, 0, none⟩) n xs.length) (xs.take n) := by
  have hl : (xs.take n).length = n := by rw [List.length_take]; omega
  refine ⟨⟨by rw [cellsOf_length]; omega, .inr ⟨g, xs.length, _, by rw [hl], hg, h, by omega, hm, by simp [cellsOf], ?_⟩⟩, hb⟩
  rw [Nat.mul_one, hl]
  simp [cellsOf, List.map_take]
theorem Buf.own0 {k : IntKind} {e : TypeId} {w : World} {g c : Nat} {w0 : World} (h : Buf k e w g (List.replicate c 0)) (hb : Below w0.heap.size w0 w) (hg : w0.heap.size ≤ g) (hm : c ≤ 9223372036854775807) :
    Own k e w0 w (.slice (some ⟨g, 0, none⟩) 0 c) [] := by
  have := h.ownTake hb hg (by rw [List.length_replicate]; unfold maxLen; omega) (n := 0) (by omega)
  rwa [List.length_replicate, List.take_zero] at this
theorem drop_getD (xs : List Nat) (k : Nat) (h : k < xs.length) : xs.drop k = xs.getD k 0 :: xs.drop (k + 1) := by
  rw [List.drop_eq_getElem_cons h, List.getD_eq_getElem?_getD, List.getElem?_eq_getElem h]; rfl
end Go.Proofs.YtociocengfjioaaGreatDoor
