/- Plain lemmas on sums and differences of digits, and on a buffer that is filled from the left. -/
import Derived.Test.YtociocengfjioaaGreatDoorIntPlain
namespace Go.Proofs.YtociocengfjioaaGreatDoor
open Go.RowKit
def fill (ds : List Nat) (N : Nat) : List Nat := ds ++ List.replicate (N - ds.length) 0
theorem fill_nil (N : Nat) : fill [] N = List.replicate N 0 := by simp [fill]
theorem fill_len {ds : List Nat} {N : Nat} (h : ds.length ≤ N) : (fill ds N).length = N := by simp [fill]; omega
theorem fill_set {ds : List Nat} {N i : Nat} (d : Nat) (h : i < N) (hi : ds.length = i) : (fill ds N).set i d = fill (ds ++ [d]) N := by
  subst hi
  unfold fill
  rw [List.set_append_right _ _ (by omega), Nat.sub_self, show N - ds.length = (N - (ds ++ [d]).length) + 1 by simp; omega, List.replicate_succ, List.set_cons_zero, List.append_assoc]
  rfl
theorem fill_full {ds : List Nat} {N : Nat} (h : ds.length = N) : fill ds N = ds := by simp [fill, h]
theorem Buf.setZ {k : IntKind} {e : TypeId} {w : World} {g : Nat} {xs : List Nat} (h : Buf k e w g xs) (i : Nat) {z : Int} {y : Nat} (hz : z = (y : Int)) : Buf k e (w.setCell ⟨g, i, none⟩ (.int k z)) g (xs.set i y) := by
  subst hz; exact h.set_ i y
theorem val_snoc (ds : List Nat) (d : Nat) : val (ds ++ [d]) = val ds + 4294967296 ^ ds.length * d := by
  rw [val_append, val_cons, val_nil]; simp
theorem val_take_succ (xs : List Nat) (i : Nat) : val (xs.take (i + 1)) = val (xs.take i) + 4294967296 ^ i * xs.getD i 0 := by
  by_cases h : i < xs.length
  · rw [take_getD xs i h, val_snoc, List.length_take, Nat.min_eq_left (by omega)]
  · rw [List.take_of_length_le (by omega), List.take_of_length_le (by omega), List.getD_eq_getElem?_getD, List.getElem?_eq_none (by omega)]; simp
theorem getD_beyond (xs : List Nat) (i : Nat) (h : xs.length ≤ i) : xs.getD i 0 = 0 := by
  rw [List.getD_eq_getElem?_getD, List.getElem?_eq_none h]; rfl
theorem add_step {P v cr a b x y : Nat} (h : v + P * cr = a + b) : v + P * ((cr + x + y) % 4294967296) + P * 4294967296 * ((cr + x + y) / 4294967296) = (a + P * x) + (b + P * y) := by
  have e : P * ((cr + x + y) % 4294967296) + P * 4294967296 * ((cr + x + y) / 4294967296) = P * (cr + x + y) := by
    rw [Nat.mul_assoc, ← Nat.mul_add, Nat.mod_add_div]
  rw [Nat.add_assoc, e, Nat.mul_add, Nat.mul_add]
  omega
/-- one digit of a difference; t is x - br - y as a signed number -/
theorem sub_step {P v br a b x y : Nat} (h : a + P * br = v + b) (hx : x < 4294967296) (hy : y < 4294967296) (hbr : br ≤ 1) :
    a + P * x + P * 4294967296 * (if x < br + y then 1 else 0) = v + P * ((x + 4294967296 - br - y) % 4294967296) + (b + P * y) := by
  split
  · rename_i hlt
    rw [Nat.mod_eq_of_lt (by omega), Nat.mul_one]
    have e : P * x + P * 4294967296 = P * (x + 4294967296 - br - y) + P * br + P * y := by
      rw [← Nat.mul_add, ← Nat.mul_add, ← Nat.mul_add]; congr 1; omega
    omega
  · rename_i hlt
    rw [show x + 4294967296 - br - y = (x - br - y) + 4294967296 by omega, Nat.add_mod_right, Nat.mod_eq_of_lt (by omega), Nat.mul_zero]
    have e : P * x = P * (x - br - y) + P * br + P * y := by
      rw [← Nat.mul_add, ← Nat.mul_add]; congr 1; omega
    omega
theorem sub_word (x y br : Nat) (hx : x < 4294967296) (hy : y < 4294967296) (hbr : br ≤ 1) : ((x : Int) - (br : Int) - (y : Int)) % 4294967296 = ((((x + 4294967296 - br - y) % 4294967296 : Nat)) : Int) := by omega

theorem val_set : ∀ (zs : List Nat) (p v : Nat), p < zs.length → val (zs.set p v) + 4294967296 ^ p * zs.getD p 0 = val zs + 4294967296 ^ p * v
  | [], _, _, h => by simp at h
  | z :: zs, 0, v, _ => by simp [val]; omega
  | z :: zs, p + 1, v, h => by
    have ih := val_set zs p v (by simpa using h)
    rw [List.set_cons_succ, val_cons, val_cons, List.getD_cons_succ, Nat.pow_succ]
    have e1 : 4294967296 ^ p * 4294967296 * zs.getD p 0 = 4294967296 * (4294967296 ^ p * zs.getD p 0) := by rw [Nat.mul_comm (4294967296 ^ p) 4294967296, Nat.mul_assoc]
    have e2 : 4294967296 ^ p * 4294967296 * v = 4294967296 * (4294967296 ^ p * v) := by rw [Nat.mul_comm (4294967296 ^ p) 4294967296, Nat.mul_assoc]
    rw [e1, e2]
    omega
theorem mul_bound {d f : Nat} (hd : d < 4294967296) (hf : f < 4294967296) : d * f ≤ 18446744065119617025 := by
  have := Nat.mul_le_mul (show d ≤ 4294967295 by omega) (show f ≤ 4294967295 by omega)
  omega
theorem mul_facts {d f z cr : Nat} (hd : d < 4294967296) (hf : f < 4294967296) (hz : z < 4294967296) (hcr : cr < 4294967296) : ∃ p s1 s2 : Nat, IntKind.u64.wrap ((d : Int) * (f : Int)) = (p : Int) ∧ IntKind.u64.wrap ((p : Int) + (z : Int)) = (s1 : Int) ∧ IntKind.u64.wrap ((cr : Int) + (s1 : Int)) = (s2 : Int) ∧
    s2 = cr + d * f + z ∧ s2 / 4294967296 < 4294967296 ∧ s2 % 4294967296 < 4294967296 := by
  have hb := mul_bound hd hf
  have e : ((d * f : Nat) : Int) = (d : Int) * (f : Int) := by simp
  refine ⟨d * f, d * f + z, cr + (d * f + z), ?_, ?_, ?_, by omega, by omega, by omega⟩
  · rw [← e, IntKind.wrap_u64]; omega
  · rw [IntKind.wrap_u64]; omega
  · rw [IntKind.wrap_u64]; omega
/-- one digit of a row of the product -/
theorem mul_step {V V0 P Pi cr d y f z Z : Nat} (h : V + P * cr = V0 + Pi * (d * y)) (hP : P = Pi * Z) (s : Nat) (hs : s = cr + d * f + z) :
    (V + P * (s % 4294967296)) + P * 4294967296 * (s / 4294967296) = V0 + Pi * (d * (y + Z * f)) + P * z := by
  have e : P * (s % 4294967296) + P * 4294967296 * (s / 4294967296) = P * s := by rw [Nat.mul_assoc, ← Nat.mul_add, Nat.mod_add_div]
  have e2 : Pi * (d * (y + Z * f)) = Pi * (d * y) + P * (d * f) := by
    rw [hP, Nat.mul_add, Nat.mul_add]
    congr 1
    rw [Nat.mul_assoc]
    congr 1
    rw [← Nat.mul_assoc, Nat.mul_comm d Z, Nat.mul_assoc]
  rw [Nat.add_assoc, e, e2, hs, Nat.mul_add, Nat.mul_add]
  omega
end Go.Proofs.YtociocengfjioaaGreatDoor
