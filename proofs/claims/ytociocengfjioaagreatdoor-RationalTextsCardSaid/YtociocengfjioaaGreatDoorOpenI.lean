/- Opening an api.Int that came in; the table that is laid. -/
import Derived.Test.YtociocengfjioaaGreatDoorOpen
import Derived.Test.YtociocengfjioaaGreatDoorLawKit
import Derived.Lib.SmallJoins
import Derived.SizedLaws
import Derived.Lib.LaidTab
import Derived.Carry
namespace Go.Proofs.YtociocengfjioaaGreatDoor
open Go.ChangeShapes Go.WideShapes Go.ChangeAt Go.RowKit Go.Joins
set_option linter.unusedVariables false

theorem Tryz.cellsInt : Tryz.prog.cellsOf 24 = 2 := by kernel_rfl
theorem Tryz.bytesU32 : Tryz.prog.bytesOf 86 = 4 := by kernel_rfl

theorem slice_reach {H : Type} {enc : TypeId × Value → H} {W : World} {base : Nat} {spare : Nat → Bool} {held : Bool} {fuel : Nat} {A : Option Addr} {n c : Nat} {y : DataW H × List MemPlace}
    (h : DataW.trod enc Tryz.prog W base spare held fuel 22 [.slice A n c] = some y) (hz : ∀ x ∈ DataW.weights Tryz.prog 22 y.1, x ≤ reachBytes) : n ≤ 35184372087808 := by
  obtain ⟨d, ps⟩ := y
  have hl := sliceLen_trod Tryz.underlying22 h
  simp only at hl hz
  cases d with
  | slice es sp =>
    have := hz ((es.length + sp.length) * Tryz.prog.bytesOf 86) (by simp [DataW.weights, Tryz.underlying22])
    rw [Tryz.bytesU32] at this
    simp only [reachBytes] at this
    simp only [sliceLen] at hl
    omega
  | _ => simp [sliceLen] at hl; omega

set_option maxRecDepth 100000 in
theorem argInt {H : Type} {enc : TypeId × Value → H} {W : World} {r : Reach} {b0 : Nat} {v : Value} {d : DataW H} {p : List MemPlace} (hv : Value.okWide Tryz.prog W r b0 24 v) (h : DataW.Trod enc Tryz.prog W 0 (fun _ => true) true 24 v d p)
    (hz : ∀ x ∈ DataW.weights Tryz.prog 24 d, x ≤ reachBytes) : ∃ s A n c z, v = .agg #[.bool s, .slice A n c] ∧ AInt W s A n c z ∧ n ≤ 35184372087808 := by
  obtain ⟨c0, c1, y0, y1, m, rfl, rfl, rfl, hy0, hy1⟩ := open_agg2 Tryz.underlying24 (by kernel_rfl) Tryz.cellsInt hv h
  obtain ⟨s, e0, rfl⟩ := DataW.trod_bool Tryz.underlying4 hy0
  obtain ⟨A, n, c, e1⟩ := slice_form Tryz.underlying22 hy1
  simp only [List.cons.injEq, and_true] at e0 e1
  subst e0 e1
  obtain ⟨xs, hr, hnc, hc, hw⟩ := argRow (A := A) (len := n) (cap := c) Tryz.underlying22 Tryz.underlying86 (by kernel_rfl) ⟨m, by simpa [Value.cells] using hy1⟩
  have hn := slice_reach hy1 (fun x hx => hz x (by
    simp only [DataW.weights, Tryz.underlying24]
    exact DataW.weights_mem_each (j := 1) (t := 22) (d := y1.1) rfl rfl x hx))
  refine ⟨s, A, n, c, sgn s (val xs), rfl, ⟨xs, hr, ?_, hnc, by unfold maxLen at hc; exact hc, rfl⟩, hn⟩
  exact ArgRow.word ⟨hr, hnc, hc, hw⟩
theorem weight_at {H : Type} {P : Program} {ts : List TypeId} {ds : List (DataW H)} (h : (DataW.weightsEach P ts ds).all (· ≤ reachBytes) = true) {j : Nat} {t : TypeId} {d : DataW H} (ht : ts[j]? = some t) (hd : ds[j]? = some d) : ∀ x ∈ DataW.weights P t d, x ≤ reachBytes := fun x hx => by
  have := List.all_eq_true.1 h x (DataW.weights_mem_each ht hd x hx)
  simpa using this
end Go.Proofs.YtociocengfjioaaGreatDoor
