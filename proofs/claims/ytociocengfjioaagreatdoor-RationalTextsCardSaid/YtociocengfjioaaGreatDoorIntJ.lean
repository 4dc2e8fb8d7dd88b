/- Walk of Compare. -/
import Derived.Test.YtociocengfjioaaGreatDoorIntI
namespace Go.Proofs.YtociocengfjioaaGreatDoor
open Go.RowKit
set_option linter.unusedVariables false

theorem boxes2' (w : World) (s t : Bool) (A A' : Option Addr) (n n' c c' : Nat) : ∃ W, W = (w.alloc (.cells #[.bool s, .slice A n c] 24)).alloc (.cells #[.bool t, .slice A' n' c'] 24) ∧
    Below w.heap.size w W ∧ Pr W w.heap.size s A n c ∧ Pr W (w.heap.size + 1) t A' n' c' := by
  refine ⟨_, rfl, bthen (bone w _) (bone _ _), (Pr.new w s A n c).alloc _, ?_⟩
  have h := Pr.new (w.alloc (.cells #[.bool s, .slice A n c] 24)) t A' n' c'
  rw [alloc_size] at h
  exact h

/-- -1, 0 or 1 -/
def cmpz (x y : Int) : Int := if x < y then -1 else if x = y then 0 else 1
theorem sgn_t (a : Nat) : sgn true a = -(a : Int) := rfl
theorem sgn_f (a : Nat) : sgn false a = (a : Int) := rfl

set_option maxHeartbeats 1000000 in
set_option maxRecDepth 100000 in
theorem compare_any {s t : Bool} {A A' : Option Addr} {n n' c c' : Nat} {x y : Int} (w : World) (ha : AInt w s A n c x) (hb : AInt w t A' n' c' y) (hn : n ≤ 1099511627776) (hn' : n' ≤ 1099511627776) :
    Calls Tryz.prog 44 #[.agg #[.bool s, .slice A n c], .agg #[.bool t, .slice A' n' c']] w (RetV w (.int .i64 (cmpz x y))) := by
  have hx := ha.sign_eq
  have hy := hb.sign_eq
  obtain ⟨m, hm, r, HA⟩ := ha.still
  obtain ⟨m', hm', r', HB⟩ := hb.still
  rw [hx, hy]
  clear hx hy ha hb
  generalize x.natAbs = a at *
  generalize y.natAbs = b at *
  have ka : m = 0 ↔ a = 0 := by rw [← r.len]; exact digits_nil_iff a
  have kb : m' = 0 ↔ b = 0 := by rw [← r'.len]; exact digits_nil_iff b
  have HC := Lib.hid (fun W (h : Rd .u32 W W.heap.size A m (digits a)) (h' : Rd .u32 W W.heap.size A' m' (digits b)) => compareMag_any (A := A) (A' := A') (n := m) (n' := m') (c := m) (c' := m') (a := a) (b := b) W h h' (by omega) (by omega))
  have HD := Lib.hid (fun W (h : Rd .u32 W W.heap.size A' m' (digits b)) (h' : Rd .u32 W W.heap.size A m (digits a)) => compareMag_any (A := A') (A' := A) (n := m') (n' := m) (c := m') (c' := m) (a := b) (b := a) W h h' (by omega) (by omega))
  have e1 : Hid (cmpz (sgn s a) (sgn t b) = if s = true ∧ 0 < m then (if t = true ∧ 0 < m' then cmp3 b a else -1) else (if t = true ∧ 0 < m' then 1 else cmp3 a b)) := by
    unfold Hid
    rcases Nat.eq_zero_or_pos m with h | h <;> rcases Nat.eq_zero_or_pos m' with h' | h'
    · have := ka.1 h; have := kb.1 h'; subst_vars; cases s <;> cases t <;> simp [cmpz, sgn, cmp3]
    · have := ka.1 h; have : b ≠ 0 := fun e => by have := kb.2 e; omega
      subst_vars
      cases s <;> cases t <;> simp [cmpz, sgn, cmp3, h'] <;> omega
    · have := kb.1 h'; have : a ≠ 0 := fun e => by have := ka.2 e; omega
      subst_vars
      cases s <;> cases t <;> simp [cmpz, sgn, cmp3, h] <;> omega
    · have : b ≠ 0 := fun e => by have := kb.2 e; omega
      have : a ≠ 0 := fun e => by have := ka.2 e; omega
      cases s <;> cases t <;> simp only [cmpz, sgn, cmp3, h, h'] <;> simp <;> (repeat' split) <;> omega
  generalize cmpz (sgn s a) (sgn t b) = z at *
  generalize cmp3 b a = z1 at *
  generalize cmp3 a b = z2 at *
  clear ka kb
  obtain ⟨W, hW, bW, pa, pb⟩ := boxes2' w s t A A' n n' c c'
  have y0 := pa.drew.cells pb.drew
  go_enter Tryz.func44, Tryz.ntmps44
  go_wp2_with fail
  rw [← hW]
  clear hW
  go_region_held3 (fun w' => w'.cell? ⟨w.heap.size, 0, none⟩ = some (.bool s) ∧ w'.cell? ⟨w.heap.size, 1, none⟩ = some (.slice A n c) ∧ w'.cell? ⟨w.heap.size + 1, 0, none⟩ = some (.bool t) ∧ w'.cell? ⟨w.heap.size + 1, 1, none⟩ = some (.slice A' n' c'))
    (exact y0)
    ((first
      | (go_at_call 89; (with_reducible refine (HA.out _ bW.drew).mono ?_); rintro e wq ⟨rfl, rfl⟩)
      | (go_at_call 89; (with_reducible refine (HB.out _ bW.drew).mono ?_); rintro e wq ⟨rfl, rfl⟩)))
  obtain ⟨a0, a1, b0, b1⟩ := y0
  have bX := bW.drew
  clear pa pb bW
  generalize W.drew = X at *
  have rX := r.call bX
  have rX' := r'.call bX
  have C1 := Lib.hid (HC.out X rX rX')
  have C2 := Lib.hid (HD.out X rX' rX)
  clear HC HD HA HB r r' rX rX'
  rcases Nat.eq_zero_or_pos m with h | h <;> rcases Nat.eq_zero_or_pos m' with h' | h' <;> cases s <;> cases t
  all_goals (try subst h)
  all_goals (try subst h')
  all_goals (
    have e2 := Lib.hid e1.out
    simp [Hid, *] at e2
    go_wp2_with fail
    first
      | (go_ret; exact ⟨by first | rfl | (rw [e2]; rfl), bX⟩)
      | ((with_reducible refine C1.out.mono ?_); rintro e w2 ⟨rfl, hq⟩; go_wp2; go_ret; exact ⟨by first | rfl | (rw [e2]; rfl), bthen bX (qbelow hq)⟩)
      | ((with_reducible refine C2.out.mono ?_); rintro e w2 ⟨rfl, hq⟩; go_wp2; go_ret; exact ⟨by first | rfl | (rw [e2]; rfl), bthen bX (qbelow hq)⟩))
end Go.Proofs.YtociocengfjioaaGreatDoor
