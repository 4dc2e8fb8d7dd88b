/- Common parts of the walks of the laws on integers. -/
import Derived.Test.YtociocengfjioaaGreatDoorLim
import Derived.Deep.DeepCutAuto
namespace Go.Proofs.YtociocengfjioaaGreatDoor
open Go.RowKit
set_option linter.unusedVariables false

theorem cell_new (W : World) (C : Array Value) (e : TypeId) (fr : Nat × Nat) (i : Nat) (v : Value) (h : C[i]? = some v) : (W.alloc (.cells C e fr)).cell? ⟨W.heap.size, i, none⟩ = some v := by
  rw [cell_of_row _ _ i C e fr (heap_alloc_new W _)]; exact h
theorem light1 {s : Bool} {A : Option Addr} {n c : Nat} (W : World) (hn : n ≤ 35184372087808) :
    Calls Tryz.prog 35 #[.slice (some ⟨W.heap.size, 0, none⟩) 1 1] (W.alloc (.cells #[.bool s, .slice A n c] 24)) (RetV (W.alloc (.cells #[.bool s, .slice A n c] 24)) (.bool (decide (n ≤ 60)))) := by
  have h := light_any W.heap.size [n] 1 rfl (W.alloc (.cells #[.bool s, .slice A n c] 24)) (by
    intro i hi
    have : i = 0 := by simp at hi; omega
    subst this
    exact ⟨A, c, cell_new W _ _ _ _ _ rfl⟩) (by simp; omega) (by omega)
  rw [show decide ([n].sum ≤ 60) = decide (n ≤ 60) from decide_eq_decide.2 (by simp)] at h
  exact h
theorem light2 {s t : Bool} {A A' : Option Addr} {n n' c c' : Nat} (W : World) (hn : n ≤ 35184372087808) (hn' : n' ≤ 35184372087808) :
    Calls Tryz.prog 35 #[.slice (some ⟨W.heap.size, 0, none⟩) 2 2] (W.alloc (.cells #[.bool s, .slice A n c, .bool t, .slice A' n' c'] 24)) (RetV (W.alloc (.cells #[.bool s, .slice A n c, .bool t, .slice A' n' c'] 24)) (.bool (decide (n + n' ≤ 60)))) := by
  have h := light_any W.heap.size [n, n'] 2 rfl (W.alloc (.cells #[.bool s, .slice A n c, .bool t, .slice A' n' c'] 24)) (by
    intro i hi
    have : i = 0 ∨ i = 1 := by simp at hi; omega
    rcases this with rfl | rfl
    · exact ⟨A, c, cell_new W _ _ _ _ _ rfl⟩
    · exact ⟨A', c', cell_new W _ _ _ _ _ rfl⟩) (by simp; omega) (by omega)
  rw [show decide ([n, n'].sum ≤ 60) = decide (n + n' ≤ 60) from decide_eq_decide.2 (by simp)] at h
  exact h
theorem light3 {s t u : Bool} {A A' A'' : Option Addr} {n n' n'' c c' c'' : Nat} (W : World) (hn : n ≤ 35184372087808) (hn' : n' ≤ 35184372087808) (hn'' : n'' ≤ 35184372087808) :
    Calls Tryz.prog 35 #[.slice (some ⟨W.heap.size, 0, none⟩) 3 3] (W.alloc (.cells #[.bool s, .slice A n c, .bool t, .slice A' n' c', .bool u, .slice A'' n'' c''] 24)) (RetV (W.alloc (.cells #[.bool s, .slice A n c, .bool t, .slice A' n' c', .bool u, .slice A'' n'' c''] 24)) (.bool (decide (n + (n' + n'') ≤ 60)))) := by
  have h := light_any W.heap.size [n, n', n''] 3 rfl (W.alloc (.cells #[.bool s, .slice A n c, .bool t, .slice A' n' c', .bool u, .slice A'' n'' c''] 24)) (by
    intro i hi
    have : i = 0 ∨ i = 1 ∨ i = 2 := by simp at hi; omega
    rcases this with rfl | rfl | rfl
    · exact ⟨A, c, cell_new W _ _ _ _ _ rfl⟩
    · exact ⟨A', c', cell_new W _ _ _ _ _ rfl⟩
    · exact ⟨A'', c'', cell_new W _ _ _ _ _ rfl⟩) (by simp; omega) (by omega)
  rw [show decide ([n, n', n''].sum ≤ 60) = decide (n + (n' + n'') ≤ 60) from decide_eq_decide.2 (by simp)] at h
  exact h
/-- a box for a local variable, at the world as it is then -/
theorem box1 (W : World) (s : Bool) (A : Option Addr) (n c : Nat) : ∃ g X, g = W.heap.size ∧ X = W.alloc (.cells #[.bool s, .slice A n c] 24) ∧ Below W.heap.size W X ∧ Pr X g s A n c :=
  ⟨_, _, rfl, rfl, bone W _, Pr.new W s A n c⟩
theorem bdrew (w : World) : Below w.heap.size w w.drew := (Below.refl _ _).drew
/-- a new box that holds a canonical integer -/
def Box (X wz : World) (v : Value) (z : Int) : Prop := ∃ g s A n c, v = .pointer (some ⟨g, 0, none⟩) ∧ Pr wz g s A n c ∧ CInt wz s A n c z ∧ Below X.heap.size X wz ∧ X.heap.size ≤ g
theorem Box.new {X u : World} {s : Bool} {A : Option Addr} {n c : Nat} {z : Int} (h : CInt u s A n c z) (hb : Below X.heap.size X u) : Box X (u.alloc (.cells #[.bool s, .slice A n c] 24)) (.pointer (some ⟨u.heap.size, 0, none⟩)) z :=
  ⟨_, _, _, _, _, rfl, Pr.new u s A n c, h.call (bone _ _), bthen hb (bone _ _), hb.size⟩
theorem Box.stored {X u : World} {g : Nat} {s s' : Bool} {A A' : Option Addr} {n c n' c' : Nat} {z : Int} (p : Pr u g s' A' n' c') (h : CInt u s A n c z) (hb : Below X.heap.size X u) (hg : X.heap.size ≤ g) :
    Box X ((u.setCell ⟨g, 0, none⟩ (.bool s)).setCell ⟨g, 1, none⟩ (.slice A n c)) (.pointer (some ⟨g, 0, none⟩)) z :=
  ⟨_, _, _, _, _, rfl, p.stored, h.stored p _ _, below_stored hb hg _ _, hg⟩
theorem sign_is (k : Int) {neg : Bool} {A : Option Addr} {n c : Nat} {z : Int} (w : World) (h : AInt w neg A n c z) (hk : z.sign = k) :
    Calls Tryz.prog 46 #[.agg #[.bool neg, .slice A n c]] w (RetV w (.int .i64 k)) := by rw [← hk]; exact sign_any w h
theorem compare_is (k : Int) {s t : Bool} {A A' : Option Addr} {n n' c c' : Nat} {x y : Int} (w : World) (ha : AInt w s A n c x) (hb : AInt w t A' n' c' y) (hn : n ≤ 1099511627776) (hn' : n' ≤ 1099511627776) (hk : cmpz x y = k) :
    Calls Tryz.prog 44 #[.agg #[.bool s, .slice A n c], .agg #[.bool t, .slice A' n' c']] w (RetV w (.int .i64 k)) := by rw [← hk]; exact compare_any w ha hb hn hn'
theorem cmpz_eq {x y : Int} (h : x = y) : cmpz x y = 0 := by unfold cmpz; rw [if_neg (by omega), if_pos h]
theorem cmpz_lt {x y : Int} (h : x < y) : cmpz x y = -1 := by unfold cmpz; rw [if_pos h]
theorem cmpz_gt {x y : Int} (h : y < x) : cmpz x y = 1 := by unfold cmpz; rw [if_neg (by omega), if_neg (by omega)]
theorem AInt.stored {w : World} {g : Nat} {s : Bool} {A : Option Addr} {n c : Nat} {neg : Bool} {X : Option Addr} {m k : Nat} {z : Int} (hz : AInt w neg X m k z) (h : Pr w g s A n c) (u v : Value) :
    AInt ((w.setCell ⟨g, 0, none⟩ u).setCell ⟨g, 1, none⟩ v) neg X m k z := by
  obtain ⟨ds, h1, h2⟩ := hz
  exact ⟨ds, (h1.stored h u v).more (by simp), h2⟩
end Go.Proofs.YtociocengfjioaaGreatDoor
