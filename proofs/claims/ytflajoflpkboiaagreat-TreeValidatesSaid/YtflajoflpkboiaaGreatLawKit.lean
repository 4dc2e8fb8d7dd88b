/- Common parts of the walks of the laws on integers. -/
import Derived.Test.YtflajoflpkboiaaGreatLim
import Derived.Deep.DeepCutAuto
namespace Go.Proofs.YtflajoflpkboiaaGreat
open Go.RowKit
set_option linter.unusedVariables false

theorem bdrew (w : World) : Below w.heap.size w w.drew := (Below.refl _ _).drew
/-- a new box that holds a canonical integer -/
def Box (X wz : World) (v : Value) (z : Int) : Prop := ∃ g s A n c, v = .pointer (some ⟨g, 0, none⟩) ∧ Pr wz g s A n c ∧ CInt wz s A n c z ∧ Below X.heap.size X wz ∧ X.heap.size ≤ g
theorem Box.new {X u : World} {s : Bool} {A : Option Addr} {n c : Nat} {z : Int} (h : CInt u s A n c z) (hb : Below X.heap.size X u) : Box X (u.alloc (.cells #[.bool s, .slice A n c] 29)) (.pointer (some ⟨u.heap.size, 0, none⟩)) z :=
 ⟨_, _, _, _, _, rfl, Pr.new u s A n c, h.call (bone _ _), bthen hb (bone _ _), hb.size⟩
theorem Box.stored {X u : World} {g : Nat} {s s' : Bool} {A A' : Option Addr} {n c n' c' : Nat} {z : Int} (p : Pr u g s' A' n' c') (h : CInt u s A n c z) (hb : Below X.heap.size X u) (hg : X.heap.size ≤ g) :
  Box X ((u.setCell ⟨g, 0, none⟩ (.bool s)).setCell ⟨g, 1, none⟩ (.slice A n c)) (.pointer (some ⟨g, 0, none⟩)) z :=
 ⟨_, _, _, _, _, rfl, p.stored, h.stored p _ _, below_stored hb hg _ _, hg⟩
theorem cmpz_eq {x y : Int} (h : x = y) : cmpz x y = 0 := by unfold cmpz; rw [if_neg (by omega), if_pos h]
theorem cmpz_lt {x y : Int} (h : x < y) : cmpz x y = -1 := by unfold cmpz; rw [if_pos h]
theorem cmpz_gt {x y : Int} (h : y < x) : cmpz x y = 1 := by unfold cmpz; rw [if_neg (by omega), if_neg (by omega)]
theorem AInt.stored {w : World} {g : Nat} {s : Bool} {A : Option Addr} {n c : Nat} {neg : Bool} {X : Option Addr} {m k : Nat} {z : Int} (hz : AInt w neg X m k z) (h : Pr w g s A n c) (u v : Value) :
  AInt ((w.setCell ⟨g, 0, none⟩ u).setCell ⟨g, 1, none⟩ v) neg X m k z := by
 obtain ⟨ds, h1, h2⟩ := hz
 exact ⟨ds, (h1.stored h u v).more (by simp), h2⟩
end Go.Proofs.YtflajoflpkboiaaGreat
