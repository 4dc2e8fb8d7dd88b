/- Walks of Abs, Negate, FromInt64. -/
import Derived.Test.YtociocengfjioaaGreatDoorIntG
namespace Go.Proofs.YtociocengfjioaaGreatDoor
open Go.RowKit
set_option linter.unusedVariables false

theorem boxes1 (w : World) (s : Bool) (A : Option Addr) (n c : Nat) : ∃ W, W = (w.alloc (.cells #[.bool s, .slice A n c] 24)).alloc (.cells #[.bool false, .slice none 0 0] 24) ∧
    Below w.heap.size w W ∧ Pr W w.heap.size s A n c ∧ Pr W (w.heap.size + 1) false none 0 0 := by
  refine ⟨_, rfl, bthen (bone w _) (bone _ _), (Pr.new w s A n c).alloc _, ?_⟩
  have h := Pr.new (w.alloc (.cells #[.bool s, .slice A n c] 24)) false none 0 0
  rw [alloc_size] at h
  exact h
theorem Pr.cells1 {w : World} {g : Nat} {s : Bool} {A : Option Addr} {n c : Nat} (h : Pr w g s A n c) : w.cell? ⟨g, 0, none⟩ = some (.bool s) ∧ w.cell? ⟨g, 1, none⟩ = some (.slice A n c) := ⟨h.cell0, h.cell1⟩

set_option maxRecDepth 100000 in
theorem abs_any {s : Bool} {A : Option Addr} {n c : Nat} {x : Int} (w : World) (ha : AInt w s A n c x) (hn : n ≤ 1099511627776) :
    Calls Tryz.prog 50 #[.agg #[.bool s, .slice A n c]] w (RetInt w (x.natAbs : Int)) := by
  obtain ⟨m, hm, r, HA⟩ := ha.still
  clear ha
  generalize x.natAbs = a at *
  have hs : ((a : Nat) : Int) = sgn false a := rfl
  rw [hs]
  clear hs
  have HC := Lib.hid (fun W h => clone_any (c := m) (A := A) (n := m) (xs := digits a) W h (by omega))
  obtain ⟨W, hW, bW, pa, pr⟩ := boxes1 w s A n c
  have a0 := pa.cell0
  have a1 := pa.cell1
  go_enter Tryz.func50, Tryz.ntmps50
  go_wp2_with fail
  rw [← hW]
  clear hW
  refine (HA.out _ bW).mono ?_
  rintro e w0 ⟨rfl, rfl⟩
  go_wp2_with fail
  refine (HC.out _ (r.call bW)).mono ?_
  rintro e w1 ⟨v, rfl, o1⟩
  obtain ⟨A1, n1, c1, rfl, r1, h1, h1'⟩ := o1.form'
  have d1 := o1.2
  clear o1
  have HW := Lib.hid (wrap_mag false w1 r1 h1 h1')
  go_wp2_with fail
  refine HW.out.mono ?_
  rintro e w2 ⟨neg, A2, n2, c2, rfl, ci, d2⟩
  have p2 := (pr.call d1).call d2
  have bZ := bthen (bthen bW d1) d2
  obtain ⟨q0, q1, f0, f1, k0, k1⟩ := p2.all (.bool neg) (.slice A2 n2 c2)
  go_wp2
  ((try simp only [Exit.inBlock, Exit.then]); refine bodyPost_ret (by simp [results, Tryz.results50, go_sem, k0, k1]; try rfl) rfl ?_)
  exact RetInt.stored ci p2 bZ (by omega)

set_option maxRecDepth 100000 in
theorem negate_any {s : Bool} {A : Option Addr} {n c : Nat} {x : Int} (w : World) (ha : AInt w s A n c x) (hn : n ≤ 1099511627776) :
    Calls Tryz.prog 48 #[.agg #[.bool s, .slice A n c]] w (RetInt w (-x)) := by
  have hx := ha.sign_eq
  obtain ⟨m, hm, r, HA⟩ := ha.still
  have hz : -x = sgn (!s) x.natAbs := by rw [hx, sgn_natAbs]; unfold sgn; cases s <;> simp
  rw [hz]
  clear ha hx hz
  generalize x.natAbs = a at *
  have HC := Lib.hid (fun W h => clone_any (c := m) (A := A) (n := m) (xs := digits a) W h (by omega))
  obtain ⟨W, hW, bW, pa, pr⟩ := boxes1 w s A n c
  have a0 := pa.cell0
  have a1 := pa.cell1
  go_enter Tryz.func48, Tryz.ntmps48
  go_wp2_with fail
  rw [← hW]
  clear hW
  have y0 := pa.drew.cells1
  go_region_held3 (fun w' => w'.cell? ⟨w.heap.size, 0, none⟩ = some (.bool s) ∧ w'.cell? ⟨w.heap.size, 1, none⟩ = some (.slice A n c))
    (first | exact y0 | exact y1 | exact y2 | exact y3)
    ((first
      | (go_at_call 89; (with_reducible refine (HA.out _ bW.drew).mono ?_); rintro e wq ⟨rfl, rfl⟩)
      | (go_at_call 93; (with_reducible refine (HC.out _ (r.call bW.drew)).mono ?_); rintro e w1 ⟨v1, rfl, o1⟩; obtain ⟨A1, n1, c1, rfl, r1, h1, h1'⟩ := o1.form'; have d1 := o1.2; have pa1 := pa.drew.call d1; have y1 := pa1.cells1)
      | (go_at_call 87; (with_reducible refine (wrap_mag (!s) _ r1 h1 h1').mono ?_); rintro e w2 ⟨neg, A2, n2, c2, rfl, ci, d2⟩; have pa2 := pa1.call d2; have y2 := pa2.cells1; have y3 := (pa2.far (g' := w.heap.size + 1) (by omega) (.bool neg) (.slice A2 n2 c2)).cells1; have p2 := (pr.drew.call d1).call d2; obtain ⟨q0, q1, f0, f1, k0, k1⟩ := p2.all (.bool neg) (.slice A2 n2 c2))))
  have bZ := bthen (bthen bW.drew d1) d2
  go_wp2
  ((try simp only [Exit.inBlock, Exit.then]); refine bodyPost_ret (by simp [results, Tryz.results48, go_sem, k0, k1]; try rfl) rfl ?_)
  exact RetInt.stored ci p2 bZ (by omega)
end Go.Proofs.YtociocengfjioaaGreatDoor
