/- The plain functions of Frame and Unframe. -/
import Derived.Test.YthiihejbjfmbkaaCrcPlain
import Derived.Test.YthiihejbjfmbkaaWireDecPlain
import Derived.Deep.RegionHeld3
namespace Go.Proofs.Ythiihejbjfmbkaa
def sum4 (s : Nat) : List Nat := [s / 16777216 % 256, s / 65536 % 256, s / 256 % 256, s % 256]
def frameHead (kind : Nat) (body : List Nat) : List Nat := kind :: (encU body.length ++ body)
def frameL (kind : Nat) (body : List Nat) : List Nat := frameHead kind body ++ sum4 (crc (frameHead kind body))
def frame (kind : Nat) (body : List Nat) : List Nat × Int := if body.length ≤ 1048576 then (frameL kind body, 0) else ([], 10)
theorem sum4_byte (s : Nat) : ∀ x ∈ sum4 s, x < 256 := by
  intro x hx
  simp only [sum4, List.mem_cons, List.not_mem_nil, or_false] at hx
  omega
theorem crc_lt {xs : List Nat} (_h : ∀ x ∈ xs, x < 256) : crc xs < 4294967296 := by unfold crc; omega
theorem frameHead_byte {kind : Nat} {body : List Nat} (hk : kind < 256) (hb : ∀ x ∈ body, x < 256) (hl : body.length ≤ 4611686018427387904) : ∀ x ∈ frameHead kind body, x < 256 := by
  intro x hx
  unfold frameHead at hx
  rcases List.mem_cons.1 hx with rfl | hx
  · exact hk
  · rcases List.mem_append.1 hx with hx | hx
    · exact encU_byte9 hl x hx
    · exact hb x hx
theorem frameHead_len (kind : Nat) (body : List Nat) (h : body.length ≤ 1048576) : (frameHead kind body).length ≤ 1048586 := by
  have := encU_len9 (n := body.length) (by omega)
  simp only [frameHead, List.length_cons, List.length_append]
  omega
theorem crc_lt' (xs : List Nat) : crc xs < 4294967296 := by unfold crc; omega

def be (xs : List Nat) : Nat := xs.foldl (fun s c => s * 256 + c) 0
theorem be_snoc (xs : List Nat) (c : Nat) : be (xs ++ [c]) = be xs * 256 + c := by simp [be]
theorem be_step (s c k : Nat) (hk : k < 4) (hs : s < 256 ^ k) (hc : c < 256) : IntKind.u32.wrap ((s : Int) * 256) = ((s * 256 : Nat) : Int) ∧ bits .or .u32 ((s * 256 : Nat) : Int) (c : Int) = ((s * 256 + c : Nat) : Int) ∧ s * 256 + c < 256 ^ (k + 1) := by
  have h1 : 256 ^ k ≤ 256 ^ 3 := Nat.pow_le_pow_right (by omega) (by omega)
  have h2 : 256 ^ (k + 1) = 256 ^ k * 256 := Nat.pow_succ ..
  refine ⟨by rw [IntKind.wrap_u32]; omega, ?_, by omega⟩
  rw [u32_or_nat (s * 256) c (by omega) (by omega), nat_join 8 (s * 256) c (by omega) (by omega)]
theorem be4_eq (l : List Nat) (hl : l.length = 4) (hb : ∀ x ∈ l, x < 256) (s : Nat) (hs : s < 4294967296) : be l = s ↔ l = sum4 s := by
  match l, hl with
  | [a, b, c, d], _ =>
    have ha := hb a (by simp)
    have hb1 := hb b (by simp)
    have hc := hb c (by simp)
    have hd := hb d (by simp)
    simp only [be, List.foldl_cons, List.foldl_nil, sum4, List.cons.injEq, and_true]
    omega

def unframe (xs : List Nat) : Nat × List Nat × Nat × Nat :=
  if xs.length = 0 then (0, [], 0, 3) else
  if (decU (xs.drop 1)).2.2 ≠ 0 then (0, [], 0, (decU (xs.drop 1)).2.2) else
  if 1048576 < (decU (xs.drop 1)).1 then (0, [], 0, 2) else
  if xs.length - (1 + (decU (xs.drop 1)).2.1) < (decU (xs.drop 1)).1 + 4 then (0, [], 0, 3) else
  if (xs.drop (1 + (decU (xs.drop 1)).2.1 + (decU (xs.drop 1)).1)).take 4 = sum4 (crc (xs.take (1 + (decU (xs.drop 1)).2.1 + (decU (xs.drop 1)).1)))
  then (xs.getD 0 0, (xs.drop (1 + (decU (xs.drop 1)).2.1)).take (decU (xs.drop 1)).1, 1 + (decU (xs.drop 1)).2.1 + (decU (xs.drop 1)).1 + 4, 0) else (0, [], 0, 4)
def RetUnf (e5 : TypeId) (r : Nat × List Nat × Nat × Nat) (w : World) (e : Ending) (w' : World) : Prop :=
  ∃ v, e = .returned (.tuple #[.int .u8 (r.1 : Int), v, .int .i64 (r.2.2.1 : Int), .int .i64 (r.2.2.2 : Int)]) ∧ Own .u8 e5 w w' v r.2.1
theorem drop_byte {xs : List Nat} (n : Nat) (hx : ∀ x ∈ xs, x < 256) : ∀ x ∈ xs.drop n, x < 256 := fun x h => hx x (List.mem_of_mem_drop h)
theorem take_byte {xs : List Nat} (n : Nat) (hx : ∀ x ∈ xs, x < 256) : ∀ x ∈ xs.take n, x < 256 := fun x h => hx x (List.mem_of_mem_take h)
theorem results4 {fn : Func} {t u v x : Tmp} (h : fn.results = #[.tmp t, .tmp u, .tmp v, .tmp x]) (tmps : Array Value) (P : Program) (w : World) :
    (results fn tmps).run P w = .ok (.tuple #[tmps.getD t undef, tmps.getD u undef, tmps.getD v undef, tmps.getD x undef]) w := by simp [results, h]
theorem step_append_lst {P : Program} {ops : Array Oper} {o : Oper} {a : Act} {K : Act → World → Prop} {Q : Exit → Act → World → Prop} {E : Prop} {k : IntKind} {e t : TypeId} {bytes : Nat} (hE : IsElem P k e bytes) (ht : P.underlying t = some (.slice e))
    {w0 w : World} {v : Value} {xs : List Nat} (hown : Own k e w0 w v xs) {A : Option Addr} {m c B : Nat} {ys : List Nat} (hr : Rd k w B A m ys)
    (hgd : o.guard = none) {s x : Operand} (ho : o.op = .call { callee := .builtin .append, args := #[s, x], argTypes := #[t, t] }) (hs : a.eval s = v) (hx : a.eval x = .slice A m c)
    (hlen : (xs.length + m) * bytes ≤ 140737488355328) (hmax : xs.length + m ≤ 9223372036854775807)
    (h : ∀ v' w', Own k e w0 w' v' (xs ++ ys) → w.grownBy w' v.ownBlock → (v'.ownBlock = v.ownBlock ∨ v'.ownBlock = some w.heap.size) → K (a.put o.dst v') w') :
    if Region.wanted o (yielded ops a.tmps) = true then Oper.wp P o a w K Q else E := by
  have hw : Region.wanted o (yielded ops a.tmps) = true := by simp [Region.wanted, hgd]
  rw [if_pos hw]
  exact wp_append_lst hE ht hown hr ho hs hx hlen hmax h

theorem take4_eq (xs : List Nat) (en : Nat) (h : en + 4 ≤ xs.length) : (xs.drop en).take 4 = [xs.getD en 0, xs.getD (en + 1) 0, xs.getD (en + 2) 0, xs.getD (en + 3) 0] := by
  rw [drop_getD xs en (by omega), List.take_succ_cons, drop_getD xs (en + 1) (by omega), List.take_succ_cons, drop_getD xs (en + 2) (by omega), List.take_succ_cons, drop_getD xs (en + 3) (by omega), List.take_succ_cons, List.take_zero]
theorem sum4_iff (sm a b c d : Nat) (h : sm < 4294967296) : [a, b, c, d] = sum4 sm ↔ (a : Int) = (sm : Int) / 16777216 ∧ (b : Int) = (sm : Int) / 65536 % 256 ∧ (c : Int) = (sm : Int) / 256 % 256 ∧ (d : Int) = (sm : Int) % 256 := by
  simp only [sum4, List.cons.injEq, and_true]
  omega
end Go.Proofs.Ythiihejbjfmbkaa
