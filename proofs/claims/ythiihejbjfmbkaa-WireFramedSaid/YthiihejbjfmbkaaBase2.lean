/- Lemmas for the laws of this seat (part Base2): a slice of the call's own that is written. -/
import Derived.Test.YthiihejbjfmbkaaBase
namespace Go.Proofs.Ythiihejbjfmbkaa
open Go.RowKit
theorem Own.at_ {k : IntKind} {e : TypeId} {w0 w : World} {v : Value} {xs : List Nat} (h : Own k e w0 w v xs) {p : Nat} (hp : p < xs.length) : ∃ g c, v = .slice (some ⟨g, 0, none⟩) xs.length c ∧ w0.heap.size ≤ g ∧ g < w.heap.size ∧ w.cell? ⟨g, p, none⟩ = some (.int k ((xs.getD p 0 : Nat) : Int)) ∧ w.frozen? ⟨g, p, none⟩ = false ∧
    ∀ y : Nat, Own k e w0 (w.setCell ⟨g, p, none⟩ (.int k (y : Int))) (.slice (some ⟨g, 0, none⟩) xs.length c) (xs.set p y) := by
  rcases h.1.2 with ⟨rfl, hn⟩ | ⟨g, cap, cur, rfl, hg, hh, hnc, hcm, hcs, ht⟩
  · omega
  · have hlt := (Array.getElem?_eq_some_iff.1 hh).1
    have hc := h.1.cells (g := g) rfl p (.int k ((xs.getD p 0 : Nat) : Int)) (by rw [cellsOf_get, List.getD_eq_getElem?_getD, List.getElem?_eq_getElem hp]; rfl)
    rw [add_lit, Nat.zero_add] at hc
    refine ⟨g, cap, rfl, hg, hlt, hc, by simp [World.frozen?, hh], fun y => ⟨⟨by simp [cellsOf], .inr ⟨g, cap, cur.setIfInBounds p (.int k (y : Int)), by simp, hg, ?_, by simpa using hnc, hcm, by simpa using hcs, ?_⟩⟩, h.2.setCell hg _⟩⟩
    · simp [World.setCell, Array.getElem?_modify, hh]
    · rw [List.length_set, Array.toList_setIfInBounds, List.take_set, ht]
      simp [cellsOf, List.map_set]
end Go.Proofs.Ythiihejbjfmbkaa
