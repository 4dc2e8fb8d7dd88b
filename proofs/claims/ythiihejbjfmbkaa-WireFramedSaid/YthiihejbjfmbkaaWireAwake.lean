/- Lemmas for the laws of this seat (part WireAwake): each is proved for all values of its variables, under the premises that it states. -/
import Derived.Test.YthiihejbjfmbkaaWireEnc
namespace Go.Proofs.Ythiihejbjfmbkaa
open Go.RowKit
/-- Same at two slices that read alike. -/
theorem same_eq {A A' : Option Addr} {n n' c c' B B' : Nat} {xs : List Nat} {w : World} (h : Rd .u8 w B A n xs) (h' : Rd .u8 w B' A' n' xs) :
    Calls Try.prog 13 #[.slice A n c, .slice A' n' c'] w fun e w' => e = .returned (.bool true) ∧ w = w' := by
  go_enter Try.func13, Try.ntmps13
  go_wp2_with (first | (refine wpList_string_rd Try.underlying23 Try.underlying5 Try.underlying9 h rfl rfl rfl ?_) | (refine wpList_string_rd Try.underlying23 Try.underlying5 Try.underlying9 h' rfl rfl rfl ?_))
  go_ret
  exact ⟨rfl, rfl⟩

theorem Rd.two (k : IntKind) (w : World) (e : TypeId) (y z : Nat) : Rd k (w.alloc (.cells #[.int k (y : Int), .int k (z : Int)] e)) (w.heap.size + 1) (some ⟨w.heap.size, 0, none⟩) 2 [y, z] := by
  refine ⟨rfl, fun _ => ⟨_, _, rfl, by omega, fun j x hx => ?_⟩⟩
  match j, hx with
  | 0, hx => simp at hx; subst hx; simp
  | 1, hx => simp at hx; subst hx; simp

theorem awake8 (w : World) : Calls Try.prog 10 #[] w fun e w' => e = .returned (.bool true) ∧ Below w.heap.size w w' := by
  go_enter Try.func10, Try.ntmps10
  go_wp2_with (go_at_call 14; go_must (refine (encodeUint_in 300 _ (by omega)).mono ?_; rintro e w1 ⟨v, rfl, hown⟩; rw [encU_300] at hown; obtain ⟨A, c, rfl, hr, _⟩ := hown.form; have hb := hown.2; clear hown))
  refine (same_eq (hr.alloc (Nat.le_refl _) _) (Rd.two .u8 _ _ 172 2)).mono ?_
  rintro e w2 ⟨rfl, rfl⟩
  go_wp2
  go_ret
  exact ⟨rfl, hb.alloc hb.size _⟩
end Go.Proofs.Ythiihejbjfmbkaa
