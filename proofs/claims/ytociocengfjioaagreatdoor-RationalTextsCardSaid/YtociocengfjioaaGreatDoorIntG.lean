/- Walks of FromInt64, Add, Sub, Mul, Negate, Abs. -/
import Derived.Test.YtociocengfjioaaGreatDoorIntF
import Derived.StillTailTactics
namespace Go.Proofs.YtociocengfjioaaGreatDoor
open Go.RowKit
set_option linter.unusedVariables false

theorem AInt.sign_eq {w : World} {neg : Bool} {A : Option Addr} {n c : Nat} {z : Int} (h : AInt w neg A n c z) : z = sgn neg z.natAbs := by
  obtain ⟨ds, h1, h2, h3, h4, rfl⟩ := h; rw [sgn_natAbs]
theorem trimmed (ds : List Nat) : ∃ m, m ≤ ds.length ∧ (∀ j, m ≤ j → ds.getD j 0 = 0) ∧ (m = 0 ∨ ds.getD (m - 1) 0 ≠ 0) := by
  have h : ∀ k, k ≤ ds.length → (∀ j, k ≤ j → ds.getD j 0 = 0) → ∃ m, m ≤ ds.length ∧ (∀ j, m ≤ j → ds.getD j 0 = 0) ∧ (m = 0 ∨ ds.getD (m - 1) 0 ≠ 0) := by
    intro k
    induction k with
    | zero => intro h1 h2; exact ⟨0, h1, h2, .inl rfl⟩
    | succ k ih =>
      intro h1 h2
      by_cases e : ds.getD k 0 = 0
      · refine ih (by omega) (fun j hj => ?_)
        by_cases e2 : j = k
        · rw [e2]; exact e
        · exact h2 j (by omega)
      · exact ⟨k + 1, h1, h2, .inr e⟩
  exact h ds.length (Nat.le_refl _) (fun j hj => by rw [List.getD_eq_getElem?_getD, List.getElem?_eq_none hj]; rfl)
theorem Pr.far {w : World} {g g' : Nat} {s : Bool} {A : Option Addr} {n c : Nat} (h : Pr w g s A n c) (hne : g ≠ g') (u v : Value) : Pr ((w.setCell ⟨g', 0, none⟩ u).setCell ⟨g', 1, none⟩ v) g s A n c :=
  ((Below.heap_setCell _ _ _ g hne).trans (Below.heap_setCell _ _ _ g hne)).trans h
theorem Pr.cells {w : World} {g g' : Nat} {s t : Bool} {A A' : Option Addr} {n c n' c' : Nat} (h : Pr w g s A n c) (h' : Pr w g' t A' n' c') : w.cell? ⟨g, 0, none⟩ = some (.bool s) ∧ w.cell? ⟨g, 1, none⟩ = some (.slice A n c) ∧ w.cell? ⟨g', 0, none⟩ = some (.bool t) ∧ w.cell? ⟨g', 1, none⟩ = some (.slice A' n' c') := ⟨h.cell0, h.cell1, h'.cell0, h'.cell1⟩
theorem alloc_size (w : World) (o : Obj) : (w.alloc o).heap.size = w.heap.size + 1 := by simp
/-- two boxed arguments and the result's place -/
theorem boxes2 (w : World) (s t : Bool) (A A' : Option Addr) (n n' c c' : Nat) : ∃ W, W = ((w.alloc (.cells #[.bool s, .slice A n c] 24)).alloc (.cells #[.bool t, .slice A' n' c'] 24)).alloc (.cells #[.bool false, .slice none 0 0] 24) ∧
    Below w.heap.size w W ∧ Pr W w.heap.size s A n c ∧ Pr W (w.heap.size + 1) t A' n' c' ∧ Pr W (w.heap.size + 1 + 1) false none 0 0 := by
  refine ⟨_, rfl, bthen (bthen (bone w _) (bone _ _)) (bone _ _), ((Pr.new w s A n c).alloc _).alloc _, ?_, ?_⟩
  · have h := (Pr.new (w.alloc (.cells #[.bool s, .slice A n c] 24)) t A' n' c').alloc (.cells #[.bool false, .slice none 0 0] 24)
    rw [alloc_size] at h
    exact h
  · have h := Pr.new ((w.alloc (.cells #[.bool s, .slice A n c] 24)).alloc (.cells #[.bool t, .slice A' n' c'] 24)) false none 0 0
    rw [alloc_size, alloc_size] at h
    exact h
/-- the digits of an api.Int, trimmed: known ahead -/
theorem AInt.still {w : World} {neg : Bool} {A : Option Addr} {n c : Nat} {z : Int} (h : AInt w neg A n c z) :
    ∃ m, m ≤ n ∧ Rd .u32 w w.heap.size A m (digits z.natAbs) ∧ Hid (∀ W, Below w.heap.size w W → Calls Tryz.prog 89 #[.slice A n c] W (fun e w'' => e = .returned (.slice A m m) ∧ w'' = W)) := by
  obtain ⟨ds, h1, h2, h3, h4, rfl⟩ := h
  rw [sgn_natAbs]
  have hl : (digits (val ds)).length ≤ n := by
    have := digits_len_le (val_lt h2)
    rw [h1.len] at this
    exact this
  have ht : ds.take (digits (val ds)).length = digits (val ds) := by
    obtain ⟨m, hm, hz, hlst⟩ := trimmed ds
    have hd := trim_digits ds h2 m hm hz hlst
    rw [← hd, List.length_take, Nat.min_eq_left hm]
  refine ⟨_, hl, ?_, fun W hb => (trim_any W (h1.below hb) h2 h3 h4).mono ?_⟩
  · have := h1.take hl; rw [ht] at this; exact this
  · rintro e w1 ⟨m, hm, ht', rfl, rfl⟩
    have : m = (digits (val ds)).length := by rw [← ht', List.length_take]; omega
    subst this
    exact ⟨rfl, rfl⟩

set_option maxRecDepth 100000 in
theorem add_any {s t : Bool} {A A' : Option Addr} {n n' c c' : Nat} {x y : Int} (w : World) (ha : AInt w s A n c x) (hb : AInt w t A' n' c' y) (hn : n ≤ 1099511627776) (hn' : n' ≤ 1099511627776) :
    Calls Tryz.prog 52 #[.agg #[.bool s, .slice A n c], .agg #[.bool t, .slice A' n' c']] w (RetInt w (x + y)) := by
  have hx := ha.sign_eq
  have hy := hb.sign_eq
  obtain ⟨m, hm, r, HA⟩ := ha.still
  obtain ⟨m', hm', r', HB⟩ := hb.still
  rw [hx, hy]
  clear hx hy ha hb
  generalize x.natAbs = a at *
  generalize y.natAbs = b at *
  have HS := Lib.hid (fun W h h' => addSigned_any (s := s) (t := t) (A := A) (A' := A') (n := m) (n' := m') (c := m) (c' := m') (a := a) (b := b) W h h' (by omega) (by omega))
  generalize sgn s a + sgn t b = z at *
  obtain ⟨W, hW, bW, pa, pb, pr⟩ := boxes2 w s t A A' n n' c c'
  have a0 := pa.cell0
  have a1 := pa.cell1
  have b0 := pb.cell0
  have b1 := pb.cell1
  go_enter Tryz.func52, Tryz.ntmps52
  go_wp2_with fail
  rw [← hW]
  clear hW
  go_still_tail 10, (by kernel_rfl)
  still_call (HA.out _ bW.drew)
  repeat still_step
  still_call (HB.out _ bW.drew)
  repeat still_step
  refine wpStill_nil ?_
  change wpList _ _ _ _ _ W.drew
  have bX := bW.drew
  have pX := pr.drew
  clear pa pb a0 a1 b0 b1 bW pr
  generalize W.drew = X at *
  go_wp2_with fail
  refine (HS.out _ (r.call bX) (r'.call bX)).mono ?_
  rintro e w2 ⟨neg, A2, n2, c2, rfl, ci, b2⟩
  have p2 := pX.call b2
  have bZ := bthen bX b2
  obtain ⟨q0, q1, f0, f1, k0, k1⟩ := p2.all (.bool neg) (.slice A2 n2 c2)
  go_wp2
  ((try simp only [Exit.inBlock, Exit.then]); refine bodyPost_ret (by simp [results, Tryz.results52, go_sem, k0, k1]; try rfl) rfl ?_)
  exact RetInt.stored ci p2 bZ (by omega)

set_option maxRecDepth 100000 in
theorem sub_any {s t : Bool} {A A' : Option Addr} {n n' c c' : Nat} {x y : Int} (w : World) (ha : AInt w s A n c x) (hb : AInt w t A' n' c' y) (hn : n ≤ 1099511627776) (hn' : n' ≤ 1099511627776) :
    Calls Tryz.prog 54 #[.agg #[.bool s, .slice A n c], .agg #[.bool t, .slice A' n' c']] w (RetInt w (x - y)) := by
  have hx := ha.sign_eq
  have hy := hb.sign_eq
  obtain ⟨m, hm, r, HA⟩ := ha.still
  obtain ⟨m', hm', r', HB⟩ := hb.still
  have hz : x - y = sgn s x.natAbs + sgn (!t) y.natAbs := by
    rw [Int.sub_eq_add_neg]
    congr 1
    rw [hy, sgn_natAbs]; unfold sgn; cases t <;> simp
  rw [hz]
  clear hx hy ha hb hz
  generalize x.natAbs = a at *
  generalize y.natAbs = b at *
  have HS := Lib.hid (fun W h h' => addSigned_any (s := s) (t := !t) (A := A) (A' := A') (n := m) (n' := m') (c := m) (c' := m') (a := a) (b := b) W h h' (by omega) (by omega))
  generalize sgn s a + sgn (!t) b = z at *
  obtain ⟨W, hW, bW, pa, pb, pr⟩ := boxes2 w s t A A' n n' c c'
  have a0 := pa.cell0
  have a1 := pa.cell1
  have b0 := pb.cell0
  have b1 := pb.cell1
  go_enter Tryz.func54, Tryz.ntmps54
  go_wp2_with fail
  rw [← hW]
  clear hW
  go_still_tail 11, (by kernel_rfl)
  still_call (HA.out _ bW.drew)
  repeat still_step
  still_call (HB.out _ bW.drew)
  repeat still_step
  refine wpStill_nil ?_
  change wpList _ _ _ _ _ W.drew
  have bX := bW.drew
  have pX := pr.drew
  clear pa pb a0 a1 b0 b1 bW pr
  generalize W.drew = X at *
  go_wp2_with fail
  refine (HS.out _ (r.call bX) (r'.call bX)).mono ?_
  rintro e w2 ⟨neg, A2, n2, c2, rfl, ci, b2⟩
  have p2 := pX.call b2
  have bZ := bthen bX b2
  obtain ⟨q0, q1, f0, f1, k0, k1⟩ := p2.all (.bool neg) (.slice A2 n2 c2)
  go_wp2
  ((try simp only [Exit.inBlock, Exit.then]); refine bodyPost_ret (by simp [results, Tryz.results54, go_sem, k0, k1]; try rfl) rfl ?_)
  exact RetInt.stored ci p2 bZ (by omega)

set_option maxRecDepth 100000 in
theorem mul_any {s t : Bool} {A A' : Option Addr} {n n' c c' : Nat} {x y : Int} (w : World) (ha : AInt w s A n c x) (hb : AInt w t A' n' c' y) (hn : n ≤ 1099511627776) (hn' : n' ≤ 1099511627776) :
    Calls Tryz.prog 41 #[.agg #[.bool s, .slice A n c], .agg #[.bool t, .slice A' n' c']] w (RetInt w (x * y)) := by
  have hx := ha.sign_eq
  have hy := hb.sign_eq
  obtain ⟨m, hm, r, HA⟩ := ha.still
  obtain ⟨m', hm', r', HB⟩ := hb.still
  have hz : x * y = sgn (!(s == t)) (x.natAbs * y.natAbs) := by
    rw [hx, hy, sgn_natAbs, sgn_natAbs]; unfold sgn; cases s <;> cases t <;> simp [Int.neg_mul, Int.mul_neg]
  rw [hz]
  clear hx hy ha hb hz
  generalize x.natAbs = a at *
  generalize y.natAbs = b at *
  have HS := Lib.hid (fun W h h' => mulMag_any (A := A) (A' := A') (n := m) (n' := m') (c := m) (c' := m') (a := a) (b := b) W h h' (by omega) (by omega))
  generalize a * b = z at *
  obtain ⟨W, hW, bW, pa, pb, pr⟩ := boxes2 w s t A A' n n' c c'
  have a0 := pa.cell0
  have a1 := pa.cell1
  have b0 := pb.cell0
  have b1 := pb.cell1
  go_enter Tryz.func41, Tryz.ntmps41
  go_wp2_with fail
  rw [← hW]
  clear hW
  have y0 := pa.drew.cells pb.drew
  go_region_held3 (fun w' => w'.cell? ⟨w.heap.size, 0, none⟩ = some (.bool s) ∧ w'.cell? ⟨w.heap.size, 1, none⟩ = some (.slice A n c) ∧ w'.cell? ⟨w.heap.size + 1, 0, none⟩ = some (.bool t) ∧ w'.cell? ⟨w.heap.size + 1, 1, none⟩ = some (.slice A' n' c'))
    (first | exact y0 | exact y1 | exact y2 | exact y3)
    ((first
      | (go_at_call 89; (with_reducible refine (HA.out _ bW.drew).mono ?_); rintro e wq ⟨rfl, rfl⟩)
      | (go_at_call 89; (with_reducible refine (HB.out _ bW.drew).mono ?_); rintro e wq ⟨rfl, rfl⟩)
      | (go_at_call 88; (with_reducible refine (HS.out _ (r.call bW.drew) (r'.call bW.drew)).mono ?_); rintro e w1 ⟨A1, n1, c1, rfl, r1, h1, h1', d1⟩; have pa1 := pa.drew.call d1; have pb1 := pb.drew.call d1; have y1 := pa1.cells pb1)
      | (go_at_call 87; (with_reducible refine (wrap_mag (!(s == t)) _ r1 h1 h1').mono ?_); rintro e w2 ⟨neg, A2, n2, c2, rfl, ci, d2⟩; have pa2 := pa1.call d2; have pb2 := pb1.call d2; have y2 := pa2.cells pb2; have y3 := (pa2.far (g' := w.heap.size + 1 + 1) (by omega) (.bool neg) (.slice A2 n2 c2)).cells (pb2.far (g' := w.heap.size + 1 + 1) (by omega) (.bool neg) (.slice A2 n2 c2)); have p2 := (pr.drew.call d1).call d2; obtain ⟨q0, q1, f0, f1, k0, k1⟩ := p2.all (.bool neg) (.slice A2 n2 c2))))
  have bZ := bthen (bthen bW.drew d1) d2
  go_wp2
  ((try simp only [Exit.inBlock, Exit.then]); refine bodyPost_ret (by simp [results, Tryz.results41, go_sem, k0, k1]; try rfl) rfl ?_)
  exact RetInt.stored ci p2 bZ (by omega)

end Go.Proofs.YtociocengfjioaaGreatDoor
