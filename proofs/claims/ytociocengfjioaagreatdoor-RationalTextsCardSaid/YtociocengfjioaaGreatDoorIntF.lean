/- Walks of the signed functions of package integer. -/
import Derived.Test.YtociocengfjioaaGreatDoorDivMag
namespace Go.Proofs.YtociocengfjioaaGreatDoor
open Go.RowKit
set_option linter.unusedVariables false

/-- a value, nothing old changed -/
def RetV (w : World) (v : Value) (e : Ending) (w' : World) : Prop := e = .returned v ∧ Below w.heap.size w w'

theorem sgn_natAbs (neg : Bool) (v : Nat) : (sgn neg v).natAbs = v := by unfold sgn; cases neg <;> simp
theorem sgn_zero (neg : Bool) : sgn neg 0 = 0 := by cases neg <;> rfl

def RetTrimD (w : World) (B n : Nat) (A : Option Addr) (v : Nat) (e : Ending) (w' : World) : Prop :=
  ∃ m, e = .returned (.slice A m m) ∧ Rd .u32 w B A m (digits v) ∧ m ≤ n ∧ w = w'
theorem trim_mag {A : Option Addr} {n c B : Nat} {xs : List Nat} (w : World) (hr : Rd .u32 w B A n xs) (hx : W32 xs) (hnc : n ≤ c) (hc : c ≤ 9223372036854775807) :
    Calls Tryz.prog 89 #[.slice A n c] w (RetTrimD w B n A (val xs)) := by
  refine (trim_any w hr hx hnc hc).mono ?_
  rintro e w1 ⟨m, hm, ht, rfl, rfl⟩
  have hm' : m ≤ n := by have := hr.len; omega
  have r1 := hr.take hm'
  rw [ht] at r1
  exact ⟨m, rfl, r1, hm', rfl⟩

/-- the trimmed digits of an api.Int that lies in memory -/
theorem AInt.trim {w W : World} {neg : Bool} {A : Option Addr} {n c : Nat} {z : Int} (h : AInt w neg A n c z) (hb : Below w.heap.size w W) :
    Calls Tryz.prog 89 #[.slice A n c] W (RetTrimD W w.heap.size n A z.natAbs) := by
  obtain ⟨ds, h1, h2, h3, h4, rfl⟩ := h
  rw [sgn_natAbs]
  exact trim_mag W (h1.below hb) h2 h3 h4

set_option maxRecDepth 100000 in
theorem sign_any {neg : Bool} {A : Option Addr} {n c : Nat} {z : Int} (w : World) (h : AInt w neg A n c z) :
    Calls Tryz.prog 46 #[.agg #[.bool neg, .slice A n c]] w (RetV w (.int .i64 z.sign)) := by
  have HZ : Hid (z = sgn neg z.natAbs) := by obtain ⟨ds, h1, h2, h3, h4, rfl⟩ := h; rw [Hid, sgn_natAbs]
  have ht := fun W (hb : Below w.heap.size w W) => h.trim hb
  have HT := Lib.hid ht
  clear ht h
  generalize hv : z.natAbs = v at *
  have HV := Lib.hid hv
  clear hv
  go_enter Tryz.func46, Tryz.ntmps46
  go_wp2_with fail
  refine (HT.out _ ((Below.refl _ _).alloc (Nat.le_refl _) _)).mono ?_
  rintro e w1 ⟨m, rfl, r1, hm, rfl⟩
  have hl := r1.len
  by_cases h0 : m = 0
  · subst h0
    obtain rfl := (digits_nil_iff v).1 hl
    have hz : z.sign = 0 := by rw [HZ.out, sgn_zero]; rfl
    go_wp2
    go_ret
    exact ⟨by rw [hz]; rfl, (Below.refl _ _).alloc (Nat.le_refl _) _⟩
  · have hv0 : v ≠ 0 := fun e => h0 (by rw [← hl]; exact (digits_nil_iff v).2 e)
    have hne : ((m : Int) == 0) = false := by simp; omega
    clear hl
    cases neg
    · have hz : z.sign = 1 := by rw [HZ.out]; exact Int.sign_eq_one_of_pos (by simp [sgn]; omega)
      have HS := Lib.hid hz
      clear hz
      go_wp2
      go_ret
      exact ⟨by rw [HS.out]; rfl, (Below.refl _ _).alloc (Nat.le_refl _) _⟩
    · have hz : z.sign = -1 := by rw [HZ.out]; exact Int.sign_eq_neg_one_of_neg (by simp [sgn]; omega)
      have HS := Lib.hid hz
      clear hz
      go_wp2
      go_ret
      exact ⟨by rw [HS.out]; rfl, (Below.refl _ _).alloc (Nat.le_refl _) _⟩

/-- a block that holds an api.Int -/
def Pr (w : World) (g : Nat) (s : Bool) (A : Option Addr) (n c : Nat) : Prop := w.heap[g]? = some (.cells #[.bool s, .slice A n c] 24 (0, 0))
section
variable {w w' : World} {g : Nat} {s : Bool} {A : Option Addr} {n c : Nat}
theorem Pr.cell0 (h : Pr w g s A n c) : w.cell? ⟨g, 0, none⟩ = some (.bool s) := by rw [cell_of_row w g 0 _ _ (0, 0) h]; rfl
theorem Pr.cell1 (h : Pr w g s A n c) : w.cell? ⟨g, 1, none⟩ = some (.slice A n c) := by rw [cell_of_row w g 1 _ _ (0, 0) h]; rfl
theorem Pr.frozen (h : Pr w g s A n c) (i : Nat) : w.frozen? ⟨g, i, none⟩ = false := by
  unfold Pr at h
  simp [World.frozen?, h]
theorem Pr.lt (h : Pr w g s A n c) : g < w.heap.size := (Array.getElem?_eq_some_iff.1 h).1
theorem Pr.call (h : Pr w g s A n c) (hb : Below w.heap.size w w') : Pr w' g s A n c := (hb.block g h.lt).trans h
theorem Pr.below {B : Nat} (h : Pr w g s A n c) (hb : Below B w w') (hg : g < B) : Pr w' g s A n c := (hb.block g hg).trans h
theorem Pr.alloc (h : Pr w g s A n c) (o : Obj) : Pr (w.alloc o) g s A n c := (Below.heap_alloc w o g h.lt).trans h
theorem Pr.drew (h : Pr w g s A n c) : Pr w.drew g s A n c := h
theorem Pr.new (w : World) (s : Bool) (A : Option Addr) (n c : Nat) : Pr (w.alloc (.cells #[.bool s, .slice A n c] 24)) w.heap.size s A n c := by
  unfold Pr; simp only [World.alloc, Array.getElem?_push_size]
/-- digits never lie in the block of an api.Int -/
theorem Rd.apart {B m : Nat} {xs : List Nat} {b off : Nat} (hr : Rd .u32 w B (some ⟨b, off, none⟩) m xs) (hm : 0 < m) (h : Pr w g s A n c) : b ≠ g := by
  rintro rfl
  obtain ⟨b', off', e, _, hc⟩ := hr.at_ (j := 0) hm
  injection e with e
  injection e with e1 e2
  subst e1 e2
  have h0 := h.cell0
  have h1 := h.cell1
  have h2 := cell_of_row w b off _ _ (0, 0) h
  rcases off with _ | _ | k
  · simp [h0] at hc
  · simp [h1] at hc
  · rw [h2] at hc; simp at hc
theorem Rd.stored {B m : Nat} {X : Option Addr} {xs : List Nat} (hr : Rd .u32 w B X m xs) (h : Pr w g s A n c) (u v : Value) :
    Rd .u32 ((w.setCell ⟨g, 0, none⟩ u).setCell ⟨g, 1, none⟩ v) B X m xs := by
  rcases Nat.eq_zero_or_pos m with rfl | hm
  · obtain rfl : xs = [] := List.length_eq_zero_iff.1 hr.len
    exact Rd.nil
  · obtain ⟨b, off, rfl, hb, _⟩ := hr.at_ (j := 0) hm
    have hne := hr.apart hm h
    refine ⟨hr.1, fun _ => ?_⟩
    obtain ⟨b', off', e, hb', hc⟩ := hr.2 hm
    injection e with e
    injection e with e1 e2
    subst e1 e2
    refine ⟨b, off, rfl, hb, fun j x hx => ?_⟩
    rw [World.cell?_setCell_other _ _ _ _ (fun e => hne (congrArg Addr.block e).symm), World.cell?_setCell_other _ _ _ _ (fun e => hne (congrArg Addr.block e).symm)]
    exact hc j x hx
theorem Pr.stored {s' : Bool} {A' : Option Addr} {n' c' : Nat} (h : Pr w g s A n c) : Pr ((w.setCell ⟨g, 0, none⟩ (.bool s')).setCell ⟨g, 1, none⟩ (.slice A' n' c')) g s' A' n' c' := by
  unfold Pr at h ⊢
  simp only [World.setCell, Array.getElem?_modify, h, if_true, Option.map_some]
  rfl
theorem Pr.set0 (h : Pr w g s A n c) (u : Value) : (w.setCell ⟨g, 0, none⟩ u).cell? ⟨g, 0, none⟩ = some u := World.cell?_setCell_same' _ _ _ (by rw [h.cell0]; rfl)
theorem Pr.set1 (h : Pr w g s A n c) (u v : Value) : ((w.setCell ⟨g, 0, none⟩ u).setCell ⟨g, 1, none⟩ v).cell? ⟨g, 1, none⟩ = some v :=
  World.cell?_setCell_same' _ _ _ (by rw [World.cell?_setCell_other _ _ _ _ (by simp), h.cell1]; rfl)
theorem Pr.all (h : Pr w g s A n c) (u v : Value) : w.cell? ⟨g, 0, none⟩ = some (.bool s) ∧ w.cell? ⟨g, 1, none⟩ = some (.slice A n c) ∧ w.frozen? ⟨g, 0, none⟩ = false ∧ w.frozen? ⟨g, 1, none⟩ = false ∧
    (w.setCell ⟨g, 0, none⟩ u).cell? ⟨g, 0, none⟩ = some u ∧ ((w.setCell ⟨g, 0, none⟩ u).setCell ⟨g, 1, none⟩ v).cell? ⟨g, 1, none⟩ = some v := ⟨h.cell0, h.cell1, h.frozen 0, h.frozen 1, h.set0 u, h.set1 u v⟩
theorem CInt.stored {neg : Bool} {X : Option Addr} {m k : Nat} {z : Int} (hz : CInt w neg X m k z) (h : Pr w g s A n c) (u v : Value) :
    CInt ((w.setCell ⟨g, 0, none⟩ u).setCell ⟨g, 1, none⟩ v) neg X m k z :=
  ⟨(hz.1.stored h u v).more (by simp), hz.2⟩
theorem below_stored {B : Nat} {w0 : World} (hb : Below B w0 w) (hg : B ≤ g) (u v : Value) : Below B w0 ((w.setCell ⟨g, 0, none⟩ u).setCell ⟨g, 1, none⟩ v) :=
  (hb.setCell hg u).setCell hg v
end

/-- adding two signed magnitudes, by lengths -/
theorem digits_le_of {a b : Nat} (h : b ≤ a) : (digits b).length ≤ (digits a).length := digits_len_mono h
/-- behind two calls, the result stored -/
theorem RetInt.stored {w w2 : World} {g : Nat} {s : Bool} {A : Option Addr} {n c : Nat} {neg : Bool} {X : Option Addr} {m k : Nat} {z : Int} (ci : CInt w2 neg X m k z) (p : Pr w2 g s A n c) (bb : Below w.heap.size w w2) (hg : w.heap.size ≤ g) :
    RetInt w z (.returned (.agg #[.bool neg, .slice X m k])) ((w2.setCell ⟨g, 0, none⟩ (.bool neg)).setCell ⟨g, 1, none⟩ (.slice X m k)) :=
  ⟨_, _, _, _, rfl, ci.stored p _ _, below_stored bb hg _ _⟩
theorem bthen {w w1 w2 : World} (a : Below w.heap.size w w1) (b : Below w1.heap.size w1 w2) : Below w.heap.size w w2 := a.trans (b.mono a.size)
theorem bone (w : World) (o : Obj) : Below w.heap.size w (w.alloc o) := (Below.refl _ _).alloc (Nat.le_refl _) _


/-- wrap of a magnitude -/
theorem wrap_mag {A : Option Addr} {n c m : Nat} (neg : Bool) (w : World) (hr : Rd .u32 w w.heap.size A n (digits m)) (hnc : n ≤ c) (hc : c ≤ 9223372036854775807) :
    Calls Tryz.prog 87 #[.bool neg, .slice A n c] w (RetInt w (sgn neg m)) := by
  have h := wrap_any neg w hr (Nat.le_refl _) (digits_w32 m) hnc hc
  rw [val_digits] at h
  exact h

set_option maxRecDepth 100000 in
theorem addSigned_any {s t : Bool} {A A' : Option Addr} {n n' c c' a b : Nat} (w : World) (hr : Rd .u32 w w.heap.size A n (digits a)) (hr' : Rd .u32 w w.heap.size A' n' (digits b)) (hn : n ≤ 1099511627776) (hn' : n' ≤ 1099511627776) :
    Calls Tryz.prog 94 #[.bool s, .slice A n c, .bool t, .slice A' n' c'] w (RetInt w (sgn s a + sgn t b)) := by
  have al := bone w (.cells #[.bool false, .slice none 0 0] 24)
  have pn := Pr.new w false none 0 0
  by_cases hst : s = t
  · subst hst
    have hz : sgn s a + sgn s b = sgn s (a + b) := by unfold sgn; cases s <;> simp <;> omega
    have hs : (s == s) = true := by simp
    have ha := fun W (h : Rd .u32 W W.heap.size A n (digits a)) (h' : Rd .u32 W W.heap.size A' n' (digits b)) => addMag_any (c := c) (c' := c') W h h' (digits_w32 a) (digits_w32 b) hn hn'
    rw [hz]
    simp only [val_digits] at ha
    have HA := Lib.hid ha
    clear ha hz
    generalize a + b = v at *
    go_enter Tryz.func94, Tryz.ntmps94
    go_wp2_with fail
    refine (HA.out _ (hr.alloc' _) (hr'.alloc' _)).mono ?_
    rintro e w1 ⟨A1, n1, c1, rfl, r1, h1, h1', b1⟩
    have HW := Lib.hid (wrap_mag s w1 r1 h1 h1')
    go_wp2_with fail
    refine HW.out.mono ?_
    rintro e w2 ⟨neg, A2, n2, c2, rfl, ci, b2⟩
    have p2 := (pn.call b1).call b2
    obtain ⟨q0, q1, f0, f1, k0, k1⟩ := p2.all (.bool neg) (.slice A2 n2 c2)
    go_wp2
    ((try simp only [Exit.inBlock, Exit.then]); refine bodyPost_ret (by simp [results, Tryz.results94, go_sem, k0, k1]; try rfl) rfl ?_)
    exact RetInt.stored ci p2 (bthen (bthen al b1) b2) (Nat.le_refl _)
  · have hs : (s == t) = false := by simp; exact hst
    have hc := fun W (h : Rd .u32 W W.heap.size A n (digits a)) (h' : Rd .u32 W W.heap.size A' n' (digits b)) => compareMag_any (c := c) (c' := c') W h h' (by omega) (by omega)
    by_cases hab : b ≤ a
    · have hz : sgn s a + sgn t b = sgn s (a - b) := by unfold sgn; cases s <;> cases t <;> simp at hst <;> simp <;> omega
      have hge : 0 ≤ cmp3 a b := cmp3_ge hab
      have hl : n' ≤ n := by rw [← hr.len, ← hr'.len]; exact digits_le_of hab
      have ha := fun W (h : Rd .u32 W W.heap.size A n (digits a)) (h' : Rd .u32 W W.heap.size A' n' (digits b)) => subMag_any (c := c) (c' := c') W h h' (digits_w32 a) (digits_w32 b) hn hl (by rw [val_digits, val_digits]; exact hab)
      rw [hz]
      simp only [val_digits] at ha
      have HA := Lib.hid ha
      have HC := Lib.hid hc
      clear ha hz hc
      generalize a - b = v at *
      generalize cmp3 a b = cp at *
      have hcd : decide (0 ≤ cp) = true := by simp; omega
      have hcd' : decide (cp ≥ 0) = true := by simp; omega
      go_enter Tryz.func94, Tryz.ntmps94
      go_wp2_with fail
      refine (HC.out _ (hr.alloc' _) (hr'.alloc' _)).mono ?_
      rintro e w1 ⟨rfl, hq1⟩
      have b1 := qbelow hq1
      clear hq1
      go_wp2_with fail
      refine (HA.out _ ((hr.alloc' _).call b1) ((hr'.alloc' _).call b1)).mono ?_
      rintro e w2 ⟨A1, n1, c1, rfl, r1, h1, h1', b2⟩
      have HW := Lib.hid (wrap_mag s w2 r1 h1 h1')
      go_wp2_with fail
      refine HW.out.mono ?_
      rintro e w3 ⟨neg, A2, n2, c2, rfl, ci, b3⟩
      have p2 := ((pn.call b1).call b2).call b3
      obtain ⟨q0, q1, f0, f1, k0, k1⟩ := p2.all (.bool neg) (.slice A2 n2 c2)
      go_wp2
      ((try simp only [Exit.inBlock, Exit.then]); refine bodyPost_ret (by simp [results, Tryz.results94, go_sem, k0, k1]; try rfl) rfl ?_)
      exact RetInt.stored ci p2 (bthen (bthen (bthen al b1) b2) b3) (Nat.le_refl _)
    · have hz : sgn s a + sgn t b = sgn t (b - a) := by unfold sgn; cases s <;> cases t <;> simp at hst <;> simp <;> omega
      have hge : cmp3 a b = -1 := cmp3_lt (by omega)
      have hl : n ≤ n' := by rw [← hr.len, ← hr'.len]; exact digits_le_of (by omega)
      have ha := fun W (h : Rd .u32 W W.heap.size A n (digits a)) (h' : Rd .u32 W W.heap.size A' n' (digits b)) => subMag_any (c := c') (c' := c) W h' h (digits_w32 b) (digits_w32 a) hn' hl (by rw [val_digits, val_digits]; omega)
      rw [hz]
      simp only [val_digits] at ha
      rw [hge] at hc
      have HA := Lib.hid ha
      have HC := Lib.hid hc
      clear ha hz hc hge
      generalize b - a = v at *
      go_enter Tryz.func94, Tryz.ntmps94
      go_wp2_with fail
      refine (HC.out _ (hr.alloc' _) (hr'.alloc' _)).mono ?_
      rintro e w1 ⟨rfl, hq1⟩
      have b1 := qbelow hq1
      clear hq1
      go_wp2_with fail
      refine (HA.out _ ((hr.alloc' _).call b1) ((hr'.alloc' _).call b1)).mono ?_
      rintro e w2 ⟨A1, n1, c1, rfl, r1, h1, h1', b2⟩
      have HW := Lib.hid (wrap_mag t w2 r1 h1 h1')
      go_wp2_with fail
      refine HW.out.mono ?_
      rintro e w3 ⟨neg, A2, n2, c2, rfl, ci, b3⟩
      have p2 := ((pn.call b1).call b2).call b3
      obtain ⟨q0, q1, f0, f1, k0, k1⟩ := p2.all (.bool neg) (.slice A2 n2 c2)
      go_wp2
      ((try simp only [Exit.inBlock, Exit.then]); refine bodyPost_ret (by simp [results, Tryz.results94, go_sem, k0, k1]; try rfl) rfl ?_)
      exact RetInt.stored ci p2 (bthen (bthen (bthen al b1) b2) b3) (Nat.le_refl _)

end Go.Proofs.YtociocengfjioaaGreatDoor
