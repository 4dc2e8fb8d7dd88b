/- Walks of Clone and divWordInPlace. -/
import Derived.Test.YtociocengfjioaaGreatDoorIntC
import Derived.WalkSpells
namespace Go.Proofs.YtociocengfjioaaGreatDoor
open Go.RowKit

theorem only_set {a w : World} {g : Nat} (h : a.grownBy w (some g)) {p : Addr} (hp : p.block = g ∨ a.heap.size ≤ p.block) (u : Value) : a.grownBy (w.setCell p u) (some g) :=
  ⟨h.os, h.tape, h.output, by simpa [World.setCell] using h.size, fun i hi hne => (Below.heap_setCell w p u i (by
    rintro rfl
    rcases hp with hp | hp
    · exact hne (by rw [hp])
    · omega)).trans (h.block i hi hne)⟩
theorem size_set (w : World) (p : Addr) (u : Value) : (w.setCell p u).heap.size = w.heap.size := by simp [World.setCell]
theorem Nat.mul_add_mod_of_lt' {q d r : Nat} (h : r < d) : (q * d + r) % d = r := by rw [Nat.mul_comm, Nat.mul_add_mod, Nat.mod_eq_of_lt h]
theorem Nat.mul_add_div' {q d r : Nat} (hd : 0 < d) (h : r < d) : (q * d + r) / d = q := by rw [Nat.mul_comm, Nat.mul_add_div hd, Nat.div_eq_of_lt h, Nat.add_zero]

/-- a block whose first cells are the numbers xs, none frozen -/
def Mut (k : IntKind) (e : TypeId) (w : World) (g : Nat) (xs : List Nat) : Prop := ∃ cur : Array Value, w.heap[g]? = some (.cells cur e (0, 0)) ∧ xs.length ≤ cur.size ∧ cur.toList.take xs.length = cellsOf k xs
section
variable {k : IntKind} {e : TypeId} {w w' : World} {g : Nat} {xs : List Nat}
theorem Mut.lt (h : Mut k e w g xs) : g < w.heap.size := by obtain ⟨cur, h, _⟩ := h; exact (Array.getElem?_eq_some_iff.1 h).1
theorem Mut.cell' (h : Mut k e w g xs) (i x : Nat) (hx : xs[i]? = some x) : w.cell? ⟨g, i, none⟩ = some (.int k (x : Int)) := by
  obtain ⟨cur, h, hl, ht⟩ := h
  rw [cell_of_row w g i cur e (0, 0) h]
  have hi := (List.getElem?_eq_some_iff.1 hx).1
  have h2 : (cur.toList.take xs.length)[i]? = cur.toList[i]? := by rw [List.getElem?_take, if_pos hi]
  rw [ht, cellsOf_get, hx] at h2
  simpa using h2.symm
theorem Mut.cell (h : Mut k e w g xs) {i : Nat} (hi : i < xs.length) : w.cell? ⟨g, i, none⟩ = some (.int k ((xs.getD i 0 : Nat) : Int)) :=
  h.cell' i _ (by rw [List.getD_eq_getElem?_getD, List.getElem?_eq_getElem hi]; rfl)
theorem Mut.frozen (h : Mut k e w g xs) (i : Nat) : w.frozen? ⟨g, i, none⟩ = false := by
  obtain ⟨cur, h, _⟩ := h
  simp [World.frozen?, h]
theorem Mut.setZ (h : Mut k e w g xs) (i : Nat) {z : Int} {y : Nat} (hz : z = (y : Int)) : Mut k e (w.setCell ⟨g, i, none⟩ (.int k z)) g (xs.set i y) := by
  subst hz
  obtain ⟨cur, h, hl, ht⟩ := h
  refine ⟨cur.setIfInBounds i (.int k (y : Int)), ?_, by simpa using hl, ?_⟩
  · simp [World.setCell, Array.getElem?_modify, h]
  · rw [List.length_set, Array.toList_setIfInBounds, List.take_set, ht]
    simp [cellsOf, List.map_set]
theorem Mut.keep (h : Mut k e w g xs) (hk : w'.heap[g]? = w.heap[g]?) : Mut k e w' g xs := by
  obtain ⟨cur, h, r⟩ := h
  exact ⟨cur, hk.trans h, r⟩
theorem Mut.drewN (h : Mut k e w g xs) (n : Nat) : Mut k e (w.drewN n) g xs := h
theorem Mut.drew (h : Mut k e w g xs) : Mut k e w.drew g xs := h
theorem Mut.alloc (h : Mut k e w g xs) (o : Obj) : Mut k e (w.alloc o) g xs := h.keep (Below.heap_alloc w o g h.lt)
theorem Mut.far (h : Mut k e w g xs) {p : Addr} (hp : g ≠ p.block) (u : Value) : Mut k e (w.setCell p u) g xs := h.keep (Below.heap_setCell w p u g hp)
theorem Mut.call (h : Mut k e w g xs) (hb : Below w.heap.size w w') : Mut k e w' g xs := h.keep (hb.block g h.lt)
theorem Mut.below {B : Nat} (h : Mut k e w g xs) (hb : Below B w w') (hg : g < B) : Mut k e w' g xs := h.keep (hb.block g hg)
theorem Mut.grown {g' : Nat} (h : Mut k e w g xs) (hg : w.grownBy w' (some g')) (hne : g ≠ g') : Mut k e w' g xs := h.keep (hg.block g h.lt (by simpa using hne))
theorem Mut.take (h : Mut k e w g xs) (n : Nat) : Mut k e w g (xs.take n) := by
  obtain ⟨cur, h, hl, ht⟩ := h
  refine ⟨cur, h, by rw [List.length_take]; omega, ?_⟩
  rw [List.length_take]
  have : cur.toList.take (min n xs.length) = (cur.toList.take xs.length).take n := by rw [List.take_take]
  rw [this, ht]
  simp [cellsOf, List.map_take]
theorem Mut.rd (h : Mut k e w g xs) : Rd k w w.heap.size (some ⟨g, 0, none⟩) xs.length xs :=
  ⟨rfl, fun _ => ⟨g, 0, rfl, h.lt, fun j x hx => by rw [Nat.zero_add]; exact h.cell' j x hx⟩⟩
theorem Buf.mut (h : Buf k e w g xs) : Mut k e w g xs := ⟨_, h, by simp [cellsOf], by
  have : (cellsOf k xs).toArray.toList = cellsOf k xs := by simp
  rw [this]; exact List.take_of_length_le (by rw [cellsOf_length]; omega)⟩
theorem Own.mut {w0 : World} {v : Value} (h : Own k e w0 w v xs) (h0 : 0 < xs.length) : ∃ g c, v = .slice (some ⟨g, 0, none⟩) xs.length c ∧ Mut k e w g xs ∧ w0.heap.size ≤ g ∧ xs.length ≤ c ∧ c ≤ 9223372036854775807 := by
  rcases h.1.2 with ⟨rfl, hn⟩ | ⟨g, cap, cur, rfl, hg, hh, hnc, hcm, hcs, ht⟩
  · omega
  · exact ⟨g, cap, rfl, ⟨cur, hh, by omega, by simpa using ht⟩, hg, hnc, by unfold maxLen at hcm; exact hcm⟩
end

theorem divw_step {H Q d rest x t : Nat} (h : H = Q * d + rest) (ht : t = rest * 4294967296 + x) : x + 4294967296 * H = (t / d + 4294967296 * Q) * d + t % d := by
  have e := Nat.div_add_mod t d
  rw [h, Nat.add_mul, Nat.mul_add, Nat.mul_assoc 4294967296 Q d, Nat.mul_comm (t / d) d]
  generalize Q * d = qd at *
  generalize d * (t / d) = z at *
  omega
theorem divw_lt {rest x d : Nat} (hr : rest < d) (hx : x < 4294967296) : (rest * 4294967296 + x) / d < 4294967296 := by
  apply Nat.div_lt_of_lt_mul
  have : (rest + 1) * 4294967296 ≤ d * 4294967296 := Nat.mul_le_mul_right _ hr
  omega
theorem set_mid (zs qs : List Nat) (k q : Nat) (hk : k < zs.length) : (zs.take (k + 1) ++ qs).set k q = zs.take k ++ (q :: qs) := by
  rw [take_getD zs k hk, List.append_assoc, List.set_append_right _ _ (by rw [List.length_take]; omega), List.length_take, Nat.min_eq_left (by omega), Nat.sub_self]
  simp
theorem get_mid (zs qs : List Nat) (k : Nat) (hk : k < zs.length) : (zs.take (k + 1) ++ qs).getD k 0 = zs.getD k 0 := by
  rw [List.getD_eq_getElem?_getD, List.getElem?_append_left (by rw [List.length_take]; omega), List.getElem?_take, if_pos (by omega), ← List.getD_eq_getElem?_getD]

def RetDivW (e32 : TypeId) (w : World) (g d : Nat) (zs : List Nat) (e : Ending) (w' : World) : Prop :=
  ∃ qs, e = .returned (.int .u32 ((val zs % d : Nat) : Int)) ∧ qs.length = zs.length ∧ W32 qs ∧ val qs = val zs / d ∧ Mut .u32 e32 w' g qs ∧ w.grownBy w' (some g) ∧ w'.heap.size = w.heap.size

set_option maxRecDepth 100000 in
theorem divWordInPlace_any {g n c d : Nat} {zs : List Nat} (w : World) (hB0 : Mut .u32 86 w g zs) (hz : W32 zs) (hn : zs.length = n) (hnm : n ≤ 1099511627776) (hd : d < 4294967296) (hd0 : 0 < d) :
    Calls Tryz.prog 104 #[.slice (some ⟨g, 0, none⟩) n c, .int .u32 d] w (RetDivW 86 w g d zs) := by
  have HZ := Lib.hid hz
  have HL := Lib.hid hn
  clear hz hn
  go_enter Tryz.func104, Tryz.ntmps104
  go_wp2
  go_loopw [5, 6] (fun rv i wr => ∃ (k rest : Nat) (qs : List Nat), k ≤ n ∧ i = .int .i64 ((k : Int) - 1) ∧ rv = .int .u64 rest ∧ rest < d ∧ Hid (qs.length + k = n) ∧ Hid (W32 qs) ∧ Hid (val (zs.drop k) = val qs * d + rest) ∧ Mut .u32 86 wr g (zs.take k ++ qs) ∧ w.grownBy wr (some g) ∧ Hid (wr.heap.size = w.heap.size)) (fun _ i _ => (intOf i + 1).toNat)
  case atStart => exact ⟨n, 0, [], Nat.le_refl _, rfl, rfl, hd0, by simp [Hid], W32.nil, by unfold Hid; rw [List.drop_of_length_le (by rw [HL.out]; omega)]; simp [val], by rw [List.append_nil, List.take_of_length_le (by rw [HL.out]; omega)]; exact hB0, World.grownBy.refl _ _, rfl⟩
  case round =>
    obtain ⟨k, rest, qs, hk, rfl, rfl, hrest, hql, hqw, HV, hB, hgr, hsz⟩ := hrel
    clear hB0
    by_cases h0 : 0 < k
    · obtain ⟨k, rfl⟩ : ∃ j, k = j + 1 := ⟨k - 1, by omega⟩
      have hkk : ((k + 1 : Nat) : Int) - 1 = (k : Int) := by omega
      rw [hkk]
      clear hkk
      have hlen : k < (zs.take (k + 1) ++ qs).length := by
        rw [List.length_append, List.length_take, HL.out]; omega
      have hc := hB.cell hlen
      have hf := hB.frozen k
      rw [get_mid zs qs k (by rw [HL.out]; omega)] at hc
      have hx := HZ.out.getD k
      have HD : Hid (zs.drop k = zs.getD k 0 :: zs.drop (k + 1)) := drop_getD zs k (by rw [HL.out]; omega)
      have HS := Lib.hid (fun q => set_mid zs qs k q (by rw [HL.out]; omega))
      generalize zs.getD k 0 = x at *
      have hj := u64_join x rest hx (by omega)
      obtain ⟨t, ht⟩ : ∃ t, t = rest * 4294967296 + x := ⟨_, rfl⟩
      have hst := divw_step HV.out ht
      have hql2 := divw_lt hrest hx
      rw [← ht] at hql2
      have hrl : t % d < d := Nat.mod_lt _ hd0
      rw [show x + 4294967296 * rest = t by omega] at hj
      have hq : (t : Int) / (d : Int) = ((t / d : Nat) : Int) := by simp
      have hr : (t : Int) % (d : Int) = ((t % d : Nat) : Int) := by simp
      have HST := Lib.hid hst
      have hd1 : (1 : Int) ≤ (d : Int) := by omega
      have htb : t ≤ 18446744073709551615 := by omega
      clear hst ht hlen
      generalize t / d = q at *
      generalize t % d = r at *
      go_wp2
      go_roundw
      case rel =>
        refine ⟨k, r, q :: qs, by omega, rfl, congrArg _ hr, hrl, ?_, W32.mk hql2 hqw.out, ?_, ?_, only_set hgr (.inl rfl) _, ?_⟩
        · unfold Hid; rw [List.length_cons]; have := hql.out; omega
        · unfold Hid; rw [HD.out, val_cons, val_cons]; exact HST.out
        · rw [← HS.out q]; exact hB.setZ k rfl
        · unfold Hid; rw [size_set]; exact hsz.out
      case measure => simp [intOf] <;> omega
    · obtain rfl : k = 0 := by omega
      have hv := HV.out
      rw [List.drop_zero] at hv
      have e1 : val zs % d = rest := by rw [hv, Nat.mul_add_mod_of_lt' hrest]
      have e2 : val qs = val zs / d := by rw [hv]; exact (Nat.mul_add_div' hd0 hrest).symm
      have E1 := Lib.hid e1
      have E2 := Lib.hid e2
      simp only [List.take_zero, List.nil_append] at hB
      clear hv e1 e2
      go_wp2
      go_ret
      exact ⟨qs, by rw [E1.out]; rfl, by have := hql.out; have := HL.out; omega, hqw.out, E2.out, hB, hgr, hsz.out⟩

/-- a new slice that the call owns -/
def RetNew (e32 : TypeId) (w : World) (xs : List Nat) (e : Ending) (w' : World) : Prop := ∃ v, e = .returned v ∧ Own .u32 e32 w w' v xs

theorem Own.new0 (k : IntKind) (e : TypeId) {w0 : World} (w : World) (hb : Below w0.heap.size w0 w) : Own k e w0 (w.alloc (.cells #[] e)) (.slice (some ⟨w.heap.size, 0, none⟩) 0 0) [] := by
  have h : Buf k e (w.alloc (.cells #[] e)) w.heap.size [] := heap_alloc_new w _
  exact h.own (hb.alloc hb.size _) hb.size (by simp [maxLen])

theorem clone_any {A : Option Addr} {n c : Nat} {xs : List Nat} (w : World) (hr : Rd .u32 w w.heap.size A n xs) (hn : n ≤ 1099511627776) :
    Calls Tryz.prog 93 #[.slice A n c] w (RetNew 86 w xs) := by
  have HL := Lib.hid hr.len
  have h1 := fun (w : World) => Lib.run_eql_slice_nil (P := Tryz.prog) w 22 86 A n c (h := Tryz.underlying22)
  rcases A with _ | ad
  · obtain rfl : xs = [] := by
      rcases Nat.eq_zero_or_pos n with h0 | h0
      · exact List.eq_nil_of_length_eq_zero (by rw [HL.out]; exact h0)
      · obtain ⟨_, _, h, _⟩ := hr.2 h0
        cases h
    simp only [Option.isNone_none] at h1
    go_enter Tryz.func93, Tryz.ntmps93
    go_wp2
    go_ret
    exact ⟨_, rfl, Own.nil (Below.refl _ _)⟩
  · simp only [Option.isNone_some] at h1
    go_enter Tryz.func93, Tryz.ntmps93
    go_wp2_with (at_builtin; refine wpList_append_lst Tryz.elemU32 Tryz.underlying22 (Own.new0 .u32 86 w (Below.refl _ _)) (hr.alloc' _) rfl rfl rfl rfl (by simp; omega) (by simp; omega) ?_; intro v1 w1 o1 _ _)
    go_ret
    exact ⟨v1, rfl, o1⟩
end Go.Proofs.YtociocengfjioaaGreatDoor
