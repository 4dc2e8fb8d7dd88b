/- Texts of one proof, merged by a program: each lemma is proved for all values of its variables, under the premises that it states. -/
import Derived.Test.YtflajoflpkboiaaGreatPart97461f2fb9
/- Validate of the program. -/
namespace Go.Proofs.YtflajoflpkboiaaGreat
open Go Go.RowKit
set_option linter.unusedVariables false
set_option linter.unusedSimpArgs false

/-- the flaw of a node by itself -/
def nchk (L : List Nd) (i : Nat) : Int := if (tat L i).st < 0 ∨ 2 < (tat L i).st then 5 else if okc (tat L i).q then 0 else 5
/-- the flaw of a node's state -/
def schk (L : List Nd) (f : Bool) (z : Int) (i : Nat) : Int := if (tat L i).st = 1 then 0 else if decide ((tat L i).st = 2) = setB f z (tat L i).q then 0 else 16
/-- the code of Validate -/
def tvc (L : List Nd) (f : Bool) (z : Int) : Int :=
 if L.length < 1 ∨ 2000 < L.length then 10 else if costB z = false ∨ (z ≠ 0 ∧ f = false) then 5 else if findc (nchk L) L.length 0 ≠ 0 then findc (nchk L) L.length 0 else if shB L = false then 12 else findc (schk L f z) L.length 0

def vst1 (c : Bool) (L : List Nd) (f : Bool) (z i : Int) : Go.Proofs.YtflajoflpkboiaaGreat.St := ⟨[(1, .cv (.one (.ptr 0 0))), (34, .cv (.one (.b (.it (slI 9 ((L).map (rowT c))))))), (35, .cv (.one (.b (.lit (.int .i64 (L.length : Int)))))), (36, .cv (.one (.b (.lit (.int .i64 i)))))], [(0, some ⟨25, none, [.b (.it (slI 9 ((L).map (rowT c)))), .b (.lit (.bool f)), .b (.lit (.int .i64 z))]⟩)], 50⟩
def vst2 (c : Bool) (L : List Nd) (f : Bool) (z i : Int) : Go.Proofs.YtflajoflpkboiaaGreat.St := ⟨[(1, .cv (.one (.ptr 0 0))), (61, .cv (.one (.b (.it (slI 9 ((L).map (rowT c))))))), (62, .cv (.one (.b (.lit (.int .i64 (L.length : Int)))))), (63, .cv (.one (.b (.lit (.int .i64 i)))))], [(0, some ⟨25, none, [.b (.it (slI 9 ((L).map (rowT c)))), .b (.lit (.bool f)), .b (.lit (.int .i64 z))]⟩)], 50⟩
section
variable {I : WInv} {c : Bool}
theorem val_round1 (L : List Nd) (f : Bool) (z : Int) (hl : L.length ≤ 2000) (i : Nat) (hi : i < L.length) :
  (nchk L i = 0 → Rnd Tryz.prog I 80 (loopC Tryz.prog 26 0) (vst1 c L f z (i : Int)) .normal (vst1 c L f z ((i + 1 : Nat) : Int))) ∧ (nchk L i ≠ 0 → Rnd Tryz.prog I 80 (loopC Tryz.prog 26 0) (vst1 c L f z (i : Int)) .ret ⟨[(2, li 5)], [], 50⟩) := by
 by_cases h1 : (tat L i).st < 0
 ·refine ⟨fun h => absurd h (by unfold nchk; rw [if_pos (.inl h1)]; decide), fun _ => ?_⟩
  exact rnd_run 1000 [pk (bT_lss 3 (i : Int) (L.length : Int)), pk (sl_ix 23 57 9 ((L).map (rowT c)) i (i : Int) ((rowT c) (tat L i)) (tat_row hi)), pk (bT_lss 3 ((tat L i).st) 0)] (by kernel_rfl)
 ·by_cases h2 : 2 < (tat L i).st
  ·refine ⟨fun h => absurd h (by unfold nchk; rw [if_pos (.inr h2)]; decide), fun _ => ?_⟩
   exact rnd_run 1000 [pk (bT_lss 3 (i : Int) (L.length : Int)), pk (sl_ix 23 57 9 ((L).map (rowT c)) i (i : Int) ((rowT c) (tat L i)) (tat_row hi)), pk (bF_lss 3 ((tat L i).st) 0), pk (bT_gtr 3 ((tat L i).st) 2)] (by kernel_rfl)
  ·cases h3 : okc (tat L i).q with
   | false =>
    have e := cie_no h3
    refine ⟨fun h => absurd h (by unfold nchk; rw [if_neg (by omega), h3]; decide), fun _ => ?_⟩
    exact rnd_run 1000 [pk (bT_lss 3 (i : Int) (L.length : Int)), pk (sl_ix 23 57 9 ((L).map (rowT c)) i (i : Int) ((rowT c) (tat L i)) (tat_row hi)), pk (bF_lss 3 ((tat L i).st) 0), pk (bF_gtr 3 ((tat L i).st) 2), po (ceilInt_sp (I := I) (c := c) (p := (tat L i).q)), pk (bT_neq 36 (cie ((tat L i).q)) 0)] (by kernel_rfl)
   | true =>
    have e := cie_ok h3
    refine ⟨fun _ => ?_, fun h => absurd (show nchk L i = 0 by unfold nchk; rw [if_neg (by omega), h3]; rfl) h⟩
    exact rnd_run 1000 [pk (bT_lss 3 (i : Int) (L.length : Int)), pk (sl_ix 23 57 9 ((L).map (rowT c)) i (i : Int) ((rowT c) (tat L i)) (tat_row hi)), pk (bF_lss 3 ((tat L i).st) 0), pk (bF_gtr 3 ((tat L i).st) 2), po (ceilInt_sp (I := I) (c := c) (p := (tat L i).q)), pk (bF_neq 36 (cie ((tat L i).q)) 0), pk (b_add 3 (i : Int) 1 ⟨by omega, by omega⟩)] (by kernel_rfl)
theorem val_round2 (L : List Nd) (f : Bool) (z : Int) (hl : L.length ≤ 2000) (i : Nat) (hi : i < L.length) :
  (schk L f z i = 0 → Rnd Tryz.prog I 80 (loopC Tryz.prog 26 1) (vst2 c L f z (i : Int)) .normal (vst2 c L f z ((i + 1 : Nat) : Int))) ∧ (schk L f z i ≠ 0 → Rnd Tryz.prog I 80 (loopC Tryz.prog 26 1) (vst2 c L f z (i : Int)) .ret ⟨[(2, li 16)], [], 50⟩) := by
 have hset := settled_sp (I := I) (c := c) L f z c (tat L i)
 by_cases h1 : (tat L i).st = 1
 ·refine ⟨fun _ => ?_, fun h => absurd (show schk L f z i = 0 by unfold schk; rw [if_pos h1]) h⟩
  exact rnd_run 1000 [pk (bT_lss 3 (i : Int) (L.length : Int)), pk (sl_ix 23 57 9 ((L).map (rowT c)) i (i : Int) ((rowT c) (tat L i)) (tat_row hi)), pk (bF_neq 3 ((tat L i).st) 1), pk (b_add 3 (i : Int) 1 ⟨by omega, by omega⟩)] (by kernel_rfl)
 ·cases hs : setB f z (tat L i).q with
  | false =>
   rw [hs] at hset
   by_cases h2 : (tat L i).st = 2
   ·refine ⟨fun h => absurd h (by unfold schk; rw [if_neg h1, hs]; simp [h2]), fun _ => ?_⟩
    exact rnd_run 1000 [pk (bT_lss 3 (i : Int) (L.length : Int)), pk (sl_ix 23 57 9 ((L).map (rowT c)) i (i : Int) ((rowT c) (tat L i)) (tat_row hi)), pk (bT_neq 3 ((tat L i).st) 1), pk (bT_eql 3 ((tat L i).st) 2), po (hset), pa] (by kernel_rfl)
   ·refine ⟨fun _ => ?_, fun h => absurd (show schk L f z i = 0 by unfold schk; rw [if_neg h1, hs]; simp [h2]) h⟩
    exact rnd_run 1000 [pk (bT_lss 3 (i : Int) (L.length : Int)), pk (sl_ix 23 57 9 ((L).map (rowT c)) i (i : Int) ((rowT c) (tat L i)) (tat_row hi)), pk (bT_neq 3 ((tat L i).st) 1), pk (bF_eql 3 ((tat L i).st) 2), po (hset), pa, pk (b_add 3 (i : Int) 1 ⟨by omega, by omega⟩)] (by kernel_rfl)
  | true =>
   rw [hs] at hset
   by_cases h2 : (tat L i).st = 2
   ·refine ⟨fun _ => ?_, fun h => absurd (show schk L f z i = 0 by unfold schk; rw [if_neg h1, hs]; simp [h2]) h⟩
    exact rnd_run 1000 [pk (bT_lss 3 (i : Int) (L.length : Int)), pk (sl_ix 23 57 9 ((L).map (rowT c)) i (i : Int) ((rowT c) (tat L i)) (tat_row hi)), pk (bT_neq 3 ((tat L i).st) 1), pk (bT_eql 3 ((tat L i).st) 2), po (hset), pa, pk (b_add 3 (i : Int) 1 ⟨by omega, by omega⟩)] (by kernel_rfl)
   ·refine ⟨fun h => absurd h (by unfold schk; rw [if_neg h1, hs]; simp [h2]), fun _ => ?_⟩
    exact rnd_run 1000 [pk (bT_lss 3 (i : Int) (L.length : Int)), pk (sl_ix 23 57 9 ((L).map (rowT c)) i (i : Int) ((rowT c) (tat L i)) (tat_row hi)), pk (bT_neq 3 ((tat L i).st) 1), pk (bF_eql 3 ((tat L i).st) 2), po (hset), pa] (by kernel_rfl)
theorem nchk_5 {L : List Nd} {i : Nat} (h : nchk L i ≠ 0) : nchk L i = 5 := by
 unfold nchk at h ⊢
 split
 ·rfl
 ·rename_i h1
  rw [if_neg h1] at h
  split
  ·rename_i h2; rw [if_pos h2] at h; exact absurd rfl h
  ·rfl
theorem schk_16 {L : List Nd} {f : Bool} {z : Int} {i : Nat} (h : schk L f z i ≠ 0) : schk L f z i = 16 := by
 unfold schk at h ⊢
 split
 ·rename_i h1; rw [if_pos h1] at h; exact absurd rfl h
 ·rename_i h1
  rw [if_neg h1] at h
  split
  ·rename_i h2; rw [if_pos h2] at h; exact absurd rfl h
  ·rfl

theorem tvalidate_sp (L : List Nd) (f : Bool) (z : Int) (hl : L.length ≤ 1000000000) : Sp Tryz.prog I 26 [trT c L f z] (li (tvc L f z)) := by
 unfold tvc
 by_cases h1 : L.length < 1
 ·rw [if_pos (.inl h1)]
  exact sp_run (nt := 80) 1000 [pk (sl_ln 23 57 3 9 ((L).map (rowT c)) ((L).length : Int)), pk (bT_lss 3 ((L).length : Int) 1)] (by kernel_rfl)
 ·by_cases h2 : 2000 < L.length
  ·rw [if_pos (.inr h2)]
   exact sp_run (nt := 80) 1000 [pk (sl_ln 23 57 3 9 ((L).map (rowT c)) ((L).length : Int)), pk (bF_lss 3 ((L).length : Int) 1), pk (sl_ln 23 57 3 9 ((L).map (rowT c)) ((L).length : Int)), pk (bT_gtr 3 ((L).length : Int) 2000)] (by kernel_rfl)
  ·rw [if_neg (by omega)]
   have hc := cost_sp (I := I) z
   have l1 := loop_find (P := Tryz.prog) (I := I) (nt := 80) (c := loopC Tryz.prog 26 0) (e := 0) (b0 := ⟨[(1, .cv (.one (.ptr 0 0)))], [(0, some ⟨25, none, [.b (.it (slI 9 ((L).map (rowT c)))), .b (.lit (.bool f)), .b (.lit (.int .i64 z))]⟩)], 50⟩) (nchk L) L.length (fun i => vst1 c L f z i) (fun r => ⟨[(2, li r)], [], 50⟩) (fun i hi hc => (val_round1 L f z (by omega) i hi).1 hc) (by
    exact rnd_run 1000 [pk (bF_lss 3 (L.length : Int) (L.length : Int))] (by kernel_rfl)) (fun i hi hc => by
    rw [nchk_5 hc]
    exact (val_round1 L f z (by omega) i hi).2 hc)
   have l2 := loop_find (P := Tryz.prog) (I := I) (nt := 80) (c := loopC Tryz.prog 26 1) (e := 2) (b0 := ⟨[], [], 50⟩) (schk L f z) L.length (fun i => vst2 c L f z i) (fun r => ⟨[(2, li r)], [], 50⟩) (fun i hi hc => (val_round2 L f z (by omega) i hi).1 hc) (by
    exact rnd_run 1000 [pk (bF_lss 3 (L.length : Int) (L.length : Int))] (by kernel_rfl)) (fun i hi hc => by
    rw [schk_16 hc]
    exact (val_round2 L f z (by omega) i hi).2 hc)
   have hs := shaped_sp (I := I) (c := c) L f z (by omega) (by omega)
   cases hcb : costB z with
   | false =>
    rw [hcb] at hc
    rw [if_pos (.inl rfl)]
    exact sp_run (nt := 80) 1000 [pk (sl_ln 23 57 3 9 ((L).map (rowT c)) ((L).length : Int)), pk (bF_lss 3 ((L).length : Int) 1), pk (sl_ln 23 57 3 9 ((L).map (rowT c)) ((L).length : Int)), pk (bF_gtr 3 ((L).length : Int) 2000), po (hc), pa] (by kernel_rfl)
   | true =>
    rw [hcb] at hc
    have tail : ∀ (P1 : (findc (nchk L) L.length 0 ≠ 0 → Sp Tryz.prog I 26 [trT c L f z] (li (findc (nchk L) L.length 0)))) (P2 : findc (nchk L) L.length 0 = 0 → shB L = false → Sp Tryz.prog I 26 [trT c L f z] (li 12)) (P3 : findc (nchk L) L.length 0 = 0 → shB L = true → Sp Tryz.prog I 26 [trT c L f z] (li (findc (schk L f z) L.length 0))), Sp Tryz.prog I 26 [trT c L f z] (li (if findc (nchk L) L.length 0 ≠ 0 then findc (nchk L) L.length 0 else if shB L = false then 12 else findc (schk L f z) L.length 0)) := by
     intro P1 P2 P3
     by_cases h5 : findc (nchk L) L.length 0 = 0
     ·rw [if_neg (fun h => h h5)]
      cases h6 : shB L with
      | false => rw [if_pos rfl]; exact P2 h5 h6
      | true => rw [if_neg (by decide)]; exact P3 h5 h6
     ·rw [if_pos h5]; exact P1 h5
    by_cases hz : z = 0
    ·rw [if_neg (by simp [hz])]
     refine tail (fun h5 => ?_) (fun h5 h6 => ?_) (fun h5 h6 => ?_)
     ·have lo := l1.2 h5
      generalize findc (nchk L) L.length 0 = r at *
      exact sp_run (nt := 80) 1000 [pk (sl_ln 23 57 3 9 ((L).map (rowT c)) ((L).length : Int)), pk (bF_lss 3 ((L).length : Int) 1), pk (sl_ln 23 57 3 9 ((L).map (rowT c)) ((L).length : Int)), pk (bF_gtr 3 ((L).length : Int) 2000), po (hc), pa, pk (bF_neq 3 z 0), pk (sl_ln 23 57 3 9 ((L).map (rowT c)) ((L).length : Int)), pl (lo)] (by kernel_rfl)
     ·have lo := l1.1 h5
      rw [h6] at hs
      exact sp_run (nt := 80) 1000 [pk (sl_ln 23 57 3 9 ((L).map (rowT c)) ((L).length : Int)), pk (bF_lss 3 ((L).length : Int) 1), pk (sl_ln 23 57 3 9 ((L).map (rowT c)) ((L).length : Int)), pk (bF_gtr 3 ((L).length : Int) 2000), po (hc), pa, pk (bF_neq 3 z 0), pk (sl_ln 23 57 3 9 ((L).map (rowT c)) ((L).length : Int)), pl (lo), po (hs), pa] (by kernel_rfl)
     ·have lo := l1.1 h5
      rw [h6] at hs
      by_cases h7 : findc (schk L f z) L.length 0 = 0
      ·have lo2 := l2.1 h7
       rw [h7]
       exact sp_run (nt := 80) 1000 [pk (sl_ln 23 57 3 9 ((L).map (rowT c)) ((L).length : Int)), pk (bF_lss 3 ((L).length : Int) 1), pk (sl_ln 23 57 3 9 ((L).map (rowT c)) ((L).length : Int)), pk (bF_gtr 3 ((L).length : Int) 2000), po (hc), pa, pk (bF_neq 3 z 0), pk (sl_ln 23 57 3 9 ((L).map (rowT c)) ((L).length : Int)), pl (lo), po (hs), pa, pk (sl_ln 23 57 3 9 ((L).map (rowT c)) ((L).length : Int)), pl (lo2)] (by kernel_rfl)
      ·have lo2 := l2.2 h7
       generalize findc (schk L f z) L.length 0 = r at *
       exact sp_run (nt := 80) 1000 [pk (sl_ln 23 57 3 9 ((L).map (rowT c)) ((L).length : Int)), pk (bF_lss 3 ((L).length : Int) 1), pk (sl_ln 23 57 3 9 ((L).map (rowT c)) ((L).length : Int)), pk (bF_gtr 3 ((L).length : Int) 2000), po (hc), pa, pk (bF_neq 3 z 0), pk (sl_ln 23 57 3 9 ((L).map (rowT c)) ((L).length : Int)), pl (lo), po (hs), pa, pk (sl_ln 23 57 3 9 ((L).map (rowT c)) ((L).length : Int)), pl (lo2)] (by kernel_rfl)
    ·cases f with
     | false =>
      rw [if_pos (.inr ⟨hz, rfl⟩)]
      exact sp_run (nt := 80) 1000 [pk (sl_ln 23 57 3 9 ((L).map (rowT c)) ((L).length : Int)), pk (bF_lss 3 ((L).length : Int) 1), pk (sl_ln 23 57 3 9 ((L).map (rowT c)) ((L).length : Int)), pk (bF_gtr 3 ((L).length : Int) 2000), po (hc), pa, pk (bT_neq 3 z 0), pa] (by kernel_rfl)
     | true =>
      rw [if_neg (by simp)]
      refine tail (fun h5 => ?_) (fun h5 h6 => ?_) (fun h5 h6 => ?_)
      ·have lo := l1.2 h5
       generalize findc (nchk L) L.length 0 = r at *
       exact sp_run (nt := 80) 1000 [pk (sl_ln 23 57 3 9 ((L).map (rowT c)) ((L).length : Int)), pk (bF_lss 3 ((L).length : Int) 1), pk (sl_ln 23 57 3 9 ((L).map (rowT c)) ((L).length : Int)), pk (bF_gtr 3 ((L).length : Int) 2000), po (hc), pa, pk (bT_neq 3 z 0), pa, pk (sl_ln 23 57 3 9 ((L).map (rowT c)) ((L).length : Int)), pl (lo)] (by kernel_rfl)
      ·have lo := l1.1 h5
       rw [h6] at hs
       exact sp_run (nt := 80) 1000 [pk (sl_ln 23 57 3 9 ((L).map (rowT c)) ((L).length : Int)), pk (bF_lss 3 ((L).length : Int) 1), pk (sl_ln 23 57 3 9 ((L).map (rowT c)) ((L).length : Int)), pk (bF_gtr 3 ((L).length : Int) 2000), po (hc), pa, pk (bT_neq 3 z 0), pa, pk (sl_ln 23 57 3 9 ((L).map (rowT c)) ((L).length : Int)), pl (lo), po (hs), pa] (by kernel_rfl)
      ·have lo := l1.1 h5
       rw [h6] at hs
       by_cases h7 : findc (schk L true z) L.length 0 = 0
       ·have lo2 := l2.1 h7
        rw [h7]
        exact sp_run (nt := 80) 1000 [pk (sl_ln 23 57 3 9 ((L).map (rowT c)) ((L).length : Int)), pk (bF_lss 3 ((L).length : Int) 1), pk (sl_ln 23 57 3 9 ((L).map (rowT c)) ((L).length : Int)), pk (bF_gtr 3 ((L).length : Int) 2000), po (hc), pa, pk (bT_neq 3 z 0), pa, pk (sl_ln 23 57 3 9 ((L).map (rowT c)) ((L).length : Int)), pl (lo), po (hs), pa, pk (sl_ln 23 57 3 9 ((L).map (rowT c)) ((L).length : Int)), pl (lo2)] (by kernel_rfl)
       ·have lo2 := l2.2 h7
        generalize findc (schk L true z) L.length 0 = r at *
        exact sp_run (nt := 80) 1000 [pk (sl_ln 23 57 3 9 ((L).map (rowT c)) ((L).length : Int)), pk (bF_lss 3 ((L).length : Int) 1), pk (sl_ln 23 57 3 9 ((L).map (rowT c)) ((L).length : Int)), pk (bF_gtr 3 ((L).length : Int) 2000), po (hc), pa, pk (bT_neq 3 z 0), pa, pk (sl_ln 23 57 3 9 ((L).map (rowT c)) ((L).length : Int)), pl (lo), po (hs), pa, pk (sl_ln 23 57 3 9 ((L).map (rowT c)) ((L).length : Int)), pl (lo2)] (by kernel_rfl)
end
end Go.Proofs.YtflajoflpkboiaaGreat

/- Decisions, Next of the program. -/
namespace Go.Proofs.YtflajoflpkboiaaGreat
open Go Go.RowKit
set_option linter.unusedVariables false
set_option linter.unusedSimpArgs false

theorem tvc_ok {L : List Nd} {f : Bool} {z : Int} (h : tvc L f z = 0) : 1 ≤ L.length ∧ L.length ≤ 2000 ∧ costB z = true ∧ (z = 0 ∨ f = true) ∧ findc (nchk L) L.length 0 = 0 ∧ shB L = true ∧ findc (schk L f z) L.length 0 = 0 := by
 unfold tvc at h
 by_cases h1 : L.length < 1 ∨ 2000 < L.length
 ·rw [if_pos h1] at h; omega
 ·rw [if_neg h1] at h
  by_cases h2 : costB z = false ∨ (z ≠ 0 ∧ f = false)
  ·rw [if_pos h2] at h; omega
  ·rw [if_neg h2] at h
   by_cases h3 : findc (nchk L) L.length 0 ≠ 0
   ·rw [if_pos h3] at h; exact absurd h h3
   ·rw [if_neg h3] at h
    by_cases h4 : shB L = false
    ·rw [if_pos h4] at h; omega
    ·rw [if_neg h4] at h
     refine ⟨by omega, by omega, ?_, ?_, by omega, by simpa using h4, h⟩
     ·cases hc : costB z with
      | true => rfl
      | false => exact absurd (.inl hc) h2
     ·by_cases hz : z = 0
      ·exact .inl hz
      ·cases f with
       | true => exact .inr rfl
       | false => exact absurd (.inr ⟨hz, rfl⟩) h2
theorem shB_dn {L : List Nd} (h : shB L = true) : L.length % 2 = 1 ∧ Dn L (L.length - 1) := by
 unfold shB rtB at h
 simp only [Bool.and_eq_true, List.all_eq_true, List.mem_range, decide_eq_true_eq] at h
 obtain ⟨⟨⟨_, h1⟩, h2⟩, _⟩ := h
 refine ⟨h1, ?_⟩
 have := dn_prs (L := L) (m := L.length / 2) fun x hx => (h2 x hx).1
 rw [show L.length - 1 = 2 * (L.length / 2) by omega]
 exact this
section
variable {I : WInv} {c : Bool}

theorem decisions_sp (L : List Nd) (f : Bool) (z : Int) (i : Nat) (h : tvc L f z = 0) (hi : i < L.length) : Sp Tryz.prog I 34 [trT c L f z, ci (i : Int)] (.tu [.one (.b (.it (deI (pathD L i)))), ci 0]) := by
 obtain ⟨h1, h2, _, _, _, h6, _⟩ := tvc_ok h
 have hD := (shB_dn h6).2
 have va := tvalidate_sp (I := I) (c := c) L f z (by omega)
 rw [h] at va
 have hpat := path_sp (I := I) (c := c) L f z i (fun x h0 hx => hD x h0 (by omega)) hi (by omega)
 exact sp_run (nt := 24) 1000 [po (va), pa, pk (bF_lss 3 (i : Int) 0), pk (sl_ln 23 57 3 9 ((L).map (rowT c)) ((L).length : Int)), pk (bF_geq 3 (i : Int) ((L).length : Int)), po (hpat)] (by kernel_rfl)
theorem decisions_err (L : List Nd) (f : Bool) (z n : Int) (hl : L.length ≤ 1000000000) (h : tvc L f z ≠ 0) : Sp Tryz.prog I 34 [trT c L f z, ci n] (.tu [.one (.b (.lit (.slice none 0 0))), ci (tvc L f z)]) := by
 have va := tvalidate_sp (I := I) (c := c) L f z hl
 generalize tvc L f z = r at *
 exact sp_run (nt := 24) 1000 [po (va), pk (bT_neq 36 r 0)] (by kernel_rfl)
/-- the best open node among the first i, or -1 -/
def nxI (L : List Nd) : Nat → Int
 | 0 => -1
 | i + 1 => if (tat L i).st = 0 ∧ (nxI L i < 0 ∨ (tat L i).q < (tat L (nxI L i).toNat).q) then (i : Int) else nxI L i
theorem nxI_le (L : List Nd) : ∀ i, -1 ≤ nxI L i ∧ nxI L i < (i : Int)
 | 0 => by rw [nxI]; omega
 | i + 1 => by
  have := nxI_le L i
  rw [nxI]
  split <;> omega

def nexst (c : Bool) (L : List Nd) (f : Bool) (z i b : Int) : Go.Proofs.YtflajoflpkboiaaGreat.St := ⟨[(1, .cv (.one (.ptr 0 0))), (4, .cv (.one (.b (.lit (.int .i64 b))))), (11, .cv (.one (.b (.it (slI 9 ((L).map (rowT c))))))), (12, .cv (.one (.b (.lit (.int .i64 (L.length : Int)))))), (13, .cv (.one (.b (.lit (.int .i64 i)))))], [(0, some ⟨25, none, [.b (.it (slI 9 ((L).map (rowT c)))), .b (.lit (.bool f)), .b (.lit (.int .i64 z))]⟩)], 50⟩
theorem next_round (L : List Nd) (f : Bool) (z : Int) (hl : L.length ≤ 2000) (i : Nat) (hi : i < L.length) : Rnd Tryz.prog I 43 (loopC Tryz.prog 22 0) (nexst c L f z (i : Int) (nxI L i)) .normal (nexst c L f z ((i + 1 : Nat) : Int) (nxI L (i + 1))) := by
 have hb0 := nxI_le L i
 rw [nxI]
 by_cases h1 : (tat L i).st = 0
 ·by_cases h2 : nxI L i < 0
  ·rw [if_pos ⟨h1, .inl h2⟩]
   exact rnd_run 1000 [pk (bT_lss 3 (i : Int) (L.length : Int)), pk (sl_ix 23 57 9 ((L).map (rowT c)) i (i : Int) ((rowT c) (tat L i)) (tat_row hi)), pk (bT_eql 3 ((tat L i).st) 0), pk (bT_lss 3 (nxI L i) 0), pk (b_add 3 (i : Int) 1 ⟨by omega, by omega⟩)] (by kernel_rfl)
  ·have hb : (nxI L i).toNat < L.length := by omega
   by_cases h3 : (tat L i).q < (tat L (nxI L i).toNat).q
   ·rw [if_pos ⟨h1, .inr h3⟩]
    exact rnd_run 1000 [pk (bT_lss 3 (i : Int) (L.length : Int)), pk (sl_ix 23 57 9 ((L).map (rowT c)) i (i : Int) ((rowT c) (tat L i)) (tat_row hi)), pk (bT_eql 3 ((tat L i).st) 0), pk (bF_lss 3 (nxI L i) 0), pk (sl_ix 23 57 9 ((L).map (rowT c)) ((nxI L i).toNat) (nxI L i) ((rowT c) (tat L ((nxI L i).toNat))) (tat_row hb)), po (cmpF (I := I) (c := c) (c' := c) (k := 12) (j := 12) (p := (tat L i).q) (q := (tat L ((nxI L i).toNat)).q) (r := cmpq ((tat L i).q) ((tat L ((nxI L i).toNat)).q)) rfl (by omega)), pk (b_lss 3 (cmpq ((tat L i).q) ((tat L ((nxI L i).toNat)).q)) 0 true (cmpq_ltA (by grind))), pk (b_add 3 (i : Int) 1 ⟨by omega, by omega⟩)] (by kernel_rfl)
   ·rw [if_neg (by rintro ⟨_, h | h⟩ <;> contradiction)]
    exact rnd_run 1000 [pk (bT_lss 3 (i : Int) (L.length : Int)), pk (sl_ix 23 57 9 ((L).map (rowT c)) i (i : Int) ((rowT c) (tat L i)) (tat_row hi)), pk (bT_eql 3 ((tat L i).st) 0), pk (bF_lss 3 (nxI L i) 0), pk (sl_ix 23 57 9 ((L).map (rowT c)) ((nxI L i).toNat) (nxI L i) ((rowT c) (tat L ((nxI L i).toNat))) (tat_row hb)), po (cmpF (I := I) (c := c) (c' := c) (k := 12) (j := 12) (p := (tat L i).q) (q := (tat L ((nxI L i).toNat)).q) (r := cmpq ((tat L i).q) ((tat L ((nxI L i).toNat)).q)) rfl (by omega)), pk (b_lss 3 (cmpq ((tat L i).q) ((tat L ((nxI L i).toNat)).q)) 0 false (cmpq_nltA (by grind))), pk (b_add 3 (i : Int) 1 ⟨by omega, by omega⟩)] (by kernel_rfl)
 ·rw [if_neg (fun h => h1 h.1)]
  exact rnd_run 1000 [pk (bT_lss 3 (i : Int) (L.length : Int)), pk (sl_ix 23 57 9 ((L).map (rowT c)) i (i : Int) ((rowT c) (tat L i)) (tat_row hi)), pk (bF_eql 3 ((tat L i).st) 0), pk (b_add 3 (i : Int) 1 ⟨by omega, by omega⟩)] (by kernel_rfl)
theorem max0 (ts : Array TypeId) (t : TypeId) (x r : Int) (h : max x 0 = r) : OpOb Tryz.prog (.max ts t) [li x, li 0] (li r) := op_lit (vs := [.int .i64 x, .int .i64 0]) fun w => by
 subst h
 show ((Builtin.max2 (.int .i64 x) (.int .i64 0) >>= fun v => pure v).run Tryz.prog w) = _
 simp only [Builtin.max2]
 by_cases hx : x < 0
 ·simp [hx]; omega
 ·simp [hx]; omega
theorem tnext_sp (L : List Nd) (f : Bool) (z : Int) (h : tvc L f z = 0) : Sp Tryz.prog I 22 [trT c L f z] (.tu [ci (max (nxI L L.length) 0), .one (.b (.lit (.bool (decide (nxI L L.length ≥ 0)))))]) := by
 obtain ⟨h1, h2, _⟩ := tvc_ok h
 have va := tvalidate_sp (I := I) (c := c) L f z (by omega)
 rw [h] at va
 have lo : LoopTr Tryz.prog I 43 (loopC Tryz.prog 22 0) (nexst c L f z ((0 : Nat) : Int) (nxI L 0)) (.exit 0) ⟨[(4, .cv (.one (.b (.lit (.int .i64 (nxI L L.length))))))], [], 50⟩ := loop_up (by simp) (fun i => nexst c L f z (i : Int) (nxI L i)) L.length (fun i hi => next_round L f z (by omega) i hi) (by
  exact rnd_run 1000 [pk (bF_lss 3 (L.length : Int) (L.length : Int))] (by kernel_rfl))
 generalize nxI L L.length = b at *
 exact sp_run (nt := 43) 1000 [po (va), pa, pk (sl_ln 23 57 3 9 ((L).map (rowT c)) ((L).length : Int)), pl (lo), pk (max0 #[3, 3] 3 b (max b 0) rfl), pk (b_geq 3 b 0 (decide (b ≥ 0)) rfl)] (by kernel_rfl)
theorem tnext_err (L : List Nd) (f : Bool) (z : Int) (hl : L.length ≤ 1000000000) (h : tvc L f z ≠ 0) : Sp Tryz.prog I 22 [trT c L f z] (.tu [ci 0, .one (.b (.lit (.bool false)))]) := by
 have va := tvalidate_sp (I := I) (c := c) L f z hl
 generalize tvc L f z = r at *
 exact sp_run (nt := 43) 1000 [po (va), pk (bT_neq 36 r 0)] (by kernel_rfl)
theorem lq_int' {z : Int} (hz : costB z = true) : Lq (z : Rat) 12 := Lq.int (Lim.mono (lim64 (by unfold costB at hz; simp at hz; omega)) (by omega)) (by omega)
theorem int_div1 (a : Int) : Rat.divInt a 1 = (a : Rat) := by rw [Rat.divInt_eq_div, Rat.intCast_one, Rat.div_def]; grind
theorem fromInts12 {z : Int} (hz : costB z = true) : Sp Tryz.prog I 49 [ci z, ci 1] (.tu [fc true 12 (z : Rat), ci 0]) := by
 have h := fromInts_sp (I := I) (a := z) (b := 1) (by unfold costB at hz; simp at hz; omega) (by omega) (by omega)
 rw [int_div1] at h
 exact h.rs (tu_le ⟨frc_fc (lq_int' hz), CTle.refl, trivial⟩)
/-- the bound after the first i nodes, out of what there was at first -/
def bdO (L : List Nd) (o : Option Rat) : Nat → Option Rat
 | 0 => o
 | i + 1 => match bdO L o i with
  | none => if (tat L i).st = 0 then some (tat L i).q else none
  | some b => if (tat L i).st = 0 ∧ (tat L i).q < b then some (tat L i).q else some b

def bdst (c : Bool) (L : List Nd) (o : Option Rat) (i : Int) : Go.Proofs.YtflajoflpkboiaaGreat.St := match o with
 | none => ⟨[(2, .cv (.one (.ptr 1 0))), (4, .cv (.one (.ptr 9 0))), (5, .cv (.one (.b (.lit (.bool false))))), (24, .cv (.one (.b (.it (slI 9 ((L).map (rowT c))))))), (25, .cv (.one (.b (.lit (.int .i64 (L.length : Int)))))), (26, .cv (.one (.b (.lit (.int .i64 i)))))], [(1, some ⟨31, none, [.b (.lit (.bool false)), .b (.lit (.slice none 0 0)), .b (.lit (.bool false)), .b (.lit (.slice none 0 0))]⟩), (9, some ⟨31, none, [.b (.lit (.bool false)), .b (.lit (.slice none 0 0)), .b (.lit (.bool false)), .b (.lit (.slice none 0 0))]⟩)], 50⟩
 | some b => ⟨[(2, .cv (.one (.ptr 1 0))), (4, .cv (.one (.ptr 9 0))), (5, .cv (.one (.b (.lit (.bool true))))), (24, .cv (.one (.b (.it (slI 9 ((L).map (rowT c))))))), (25, .cv (.one (.b (.lit (.int .i64 (L.length : Int)))))), (26, .cv (.one (.b (.lit (.int .i64 i)))))], [(1, some ⟨31, none, [.b (.lit (.bool false)), .b (.lit (.slice none 0 0)), .b (.lit (.bool false)), .b (.lit (.slice none 0 0))]⟩), (9, some ⟨31, none, [.b (.it (fF true 12 b))]⟩)], 50⟩
def bdex (o : Option Rat) : Go.Proofs.YtflajoflpkboiaaGreat.St := match o with
 | none => ⟨[(2, .cv (.one (.ptr 1 0))), (4, .cv (.one (.ptr 9 0))), (5, .cv (.one (.b (.lit (.bool false)))))], [(1, some ⟨31, none, [.b (.lit (.bool false)), .b (.lit (.slice none 0 0)), .b (.lit (.bool false)), .b (.lit (.slice none 0 0))]⟩), (9, some ⟨31, none, [.b (.lit (.bool false)), .b (.lit (.slice none 0 0)), .b (.lit (.bool false)), .b (.lit (.slice none 0 0))]⟩)], 50⟩
 | some b => ⟨[(2, .cv (.one (.ptr 1 0))), (4, .cv (.one (.ptr 9 0))), (5, .cv (.one (.b (.lit (.bool true)))))], [(1, some ⟨31, none, [.b (.lit (.bool false)), .b (.lit (.slice none 0 0)), .b (.lit (.bool false)), .b (.lit (.slice none 0 0))]⟩), (9, some ⟨31, none, [.b (.it (fF true 12 b))]⟩)], 50⟩
theorem bound_round (L : List Nd) (hl : L.length ≤ 2000) (o : Option Rat) (i : Nat) (hi : i < L.length) : Rnd Tryz.prog I 50 (loopC Tryz.prog 24 0) (bdst c L (bdO L o i) (i : Int)) .normal (bdst c L (bdO L o (i + 1)) ((i + 1 : Nat) : Int)) := by
 rw [bdO]
 generalize bdO L o i = o
 cases o with
 | none =>
  by_cases h1 : (tat L i).st = 0
  ·simp only [h1, if_true]
   exact rnd_run 1000 [pk (bT_lss 3 (i : Int) (L.length : Int)), pk (sl_ix 23 57 9 ((L).map (rowT c)) i (i : Int) ((rowT c) (tat L i)) (tat_row hi)), pk (b_eql 3 ((tat L i).st) 0 true (decide_eq_true h1)), pa, po (fresh_sp (I := I) (c := c) (p := (tat L i).q)), pk (b_add 3 (i : Int) 1 ⟨by omega, by omega⟩)] (by kernel_rfl)
  ·simp only [h1, if_false]
   exact rnd_run 1000 [pk (bT_lss 3 (i : Int) (L.length : Int)), pk (sl_ix 23 57 9 ((L).map (rowT c)) i (i : Int) ((rowT c) (tat L i)) (tat_row hi)), pk (b_eql 3 ((tat L i).st) 0 false (decide_eq_false h1)), pk (b_add 3 (i : Int) 1 ⟨by omega, by omega⟩)] (by kernel_rfl)
 | some b =>
  by_cases h1 : (tat L i).st = 0
  ·by_cases h2 : (tat L i).q < b
   ·simp only [h1, h2, and_self, if_true]
    exact rnd_run 1000 [pk (bT_lss 3 (i : Int) (L.length : Int)), pk (sl_ix 23 57 9 ((L).map (rowT c)) i (i : Int) ((rowT c) (tat L i)) (tat_row hi)), pk (b_eql 3 ((tat L i).st) 0 true (decide_eq_true h1)), pa, po (cmpF (I := I) (c := c) (c' := true) (k := 12) (j := 12) (p := (tat L i).q) (q := b) (r := cmpq ((tat L i).q) b) rfl (by omega)), pk (b_lss 3 (cmpq ((tat L i).q) b) 0 true (cmpq_ltA (by grind))), po (fresh_sp (I := I) (c := c) (p := (tat L i).q)), pk (b_add 3 (i : Int) 1 ⟨by omega, by omega⟩)] (by kernel_rfl)
   ·simp only [h1, h2, and_false, if_false]
    exact rnd_run 1000 [pk (bT_lss 3 (i : Int) (L.length : Int)), pk (sl_ix 23 57 9 ((L).map (rowT c)) i (i : Int) ((rowT c) (tat L i)) (tat_row hi)), pk (b_eql 3 ((tat L i).st) 0 true (decide_eq_true h1)), pa, po (cmpF (I := I) (c := c) (c' := true) (k := 12) (j := 12) (p := (tat L i).q) (q := b) (r := cmpq ((tat L i).q) b) rfl (by omega)), pk (b_lss 3 (cmpq ((tat L i).q) b) 0 false (cmpq_nltA (by grind))), pk (b_add 3 (i : Int) 1 ⟨by omega, by omega⟩)] (by kernel_rfl)
  ·simp only [h1, false_and, if_false]
   exact rnd_run 1000 [pk (bT_lss 3 (i : Int) (L.length : Int)), pk (sl_ix 23 57 9 ((L).map (rowT c)) i (i : Int) ((rowT c) (tat L i)) (tat_row hi)), pk (b_eql 3 ((tat L i).st) 0 false (decide_eq_false h1)), pk (b_add 3 (i : Int) 1 ⟨by omega, by omega⟩)] (by kernel_rfl)
theorem bound_loop (L : List Nd) (hl : L.length ≤ 2000) (o : Option Rat) : LoopTr Tryz.prog I 50 (loopC Tryz.prog 24 0) (bdst c L o ((0 : Nat) : Int)) (.exit 0) (bdex (bdO L o L.length)) :=
 loop_up (by simp) (fun i => bdst c L (bdO L o i) (i : Int)) L.length (fun i hi => bound_round L hl o i hi) (by
  generalize bdO L o L.length = o
  cases o with
  | none => exact rnd_run 1000 [pk (bF_lss 3 (L.length : Int) (L.length : Int))] (by kernel_rfl)
  | some b => exact rnd_run 1000 [pk (bF_lss 3 (L.length : Int) (L.length : Int))] (by kernel_rfl))
def bdRes : Option Rat → TV
 | none => .tu [.ag zl, .one (.b (.lit (.bool false)))]
 | some b => .tu [fc true 12 b, .one (.b (.lit (.bool true)))]
def bdI (L : List Nd) (f : Bool) (z : Int) : Option Rat := bdO L (if f then some (z : Rat) else none) L.length
theorem tbound_sp (L : List Nd) (f : Bool) (z : Int) (h : tvc L f z = 0) : Sp Tryz.prog I 24 [trT c L f z] (bdRes (bdI L f z)) := by
 obtain ⟨h1, h2, hc, _⟩ := tvc_ok h
 have va := tvalidate_sp (I := I) (c := c) L f z (by omega)
 rw [h] at va
 have lo := bound_loop (I := I) (c := c) L h2 (if f then some (z : Rat) else none)
 have fi := fromInts12 (I := I) hc
 unfold bdI
 cases f with
 | false =>
  simp only [Bool.false_eq_true, if_false] at lo ⊢
  generalize bdO L none L.length = o at *
  cases o with
  | none => exact sp_run (nt := 50) 1000 [po (va), pa, pk (sl_ln 23 57 3 9 ((L).map (rowT c)) ((L).length : Int)), pl (lo)] (by kernel_rfl)
  | some b => exact sp_run (nt := 50) 1000 [po (va), pa, pk (sl_ln 23 57 3 9 ((L).map (rowT c)) ((L).length : Int)), pl (lo)] (by kernel_rfl)
 | true =>
  simp only [if_true] at lo ⊢
  generalize bdO L (some (z : Rat)) L.length = o at *
  cases o with
  | none => exact sp_run (nt := 50) 1000 [po (va), pa, po (fi), pk (sl_ln 23 57 3 9 ((L).map (rowT c)) ((L).length : Int)), pl (lo)] (by kernel_rfl)
  | some b => exact sp_run (nt := 50) 1000 [po (va), pa, po (fi), pk (sl_ln 23 57 3 9 ((L).map (rowT c)) ((L).length : Int)), pl (lo)] (by kernel_rfl)
theorem tbound_err (L : List Nd) (f : Bool) (z : Int) (hl : L.length ≤ 1000000000) (h : tvc L f z ≠ 0) : Sp Tryz.prog I 24 [trT c L f z] (.tu [.ag zl, .one (.b (.lit (.bool false)))]) := by
 have va := tvalidate_sp (I := I) (c := c) L f z hl
 generalize tvc L f z = r at *
 exact sp_run (nt := 50) 1000 [po (va), pk (bT_neq 36 r 0)] (by kernel_rfl)
end
end Go.Proofs.YtflajoflpkboiaaGreat

/- Boxes under other names; names forgotten beside slices of one's own; a new slice that is handed out, given out of hand. -/
namespace Go.Proofs.YtflajoflpkboiaaGreat
open Go Go.RowKit
set_option linter.unusedVariables false
set_option linter.unusedSimpArgs false

def swN (k k' x : Nat) : Nat := if Nat.beq x k then k' else if Nat.beq x k' then k else x
theorem swN_eq (k k' x : Nat) : swN k k' x = if x = k then k' else if x = k' then k else x := by
 unfold swN
 by_cases h1 : x = k
 ·subst h1; simp
 ·by_cases h2 : x = k'
  ·subst h2; simp [h1]
  ·simp [h1, h2]
theorem swN_inv (k k' x : Nat) : swN k k' (swN k k' x) = x := by
 simp only [swN_eq]
 by_cases h1 : x = k
 ·subst h1
  by_cases h2 : k' = x
  ·simp [h2]
  ·simp [h2]
 ·by_cases h2 : x = k'
  ·subst h2; simp [h1]
  ·simp [h1, h2]
theorem swN_out {k k' x : Nat} (h1 : x ≠ k) (h2 : x ≠ k') : swN k k' x = x := by rw [swN_eq, if_neg h1, if_neg h2]
def swE (f : Nat → Nat) : Env → Env
 | [] => []
 | (t, v) :: r => (t, v.mapN f) :: swE f r
def swB (f : Nat → Nat) : Bxs → Bxs
 | [] => []
 | (k, some e) :: r => (f k, some (e.out f)) :: swB f r
 | (k, none) :: r => (f k, none) :: swB f r
def namT : List (Nat × Nat) → St → St
 | [], s => s
 | (k, k') :: r, s => namT r ⟨swE (swN k k') s.E, swB (swN k k') s.B, s.nx⟩
def namOk : List (Nat × Nat) → Nat → Bool
 | [], _ => true
 | (k, k') :: r, nx => Nat.ble 2 k && Nat.ble 2 k' && Nat.blt k nx && Nat.blt k' nx && namOk r nx
def pT (_ : Nat) : Bool := true
theorem It.all_pT (x : It) : x.allN pT = true := by cases x <;> rfl
theorem itsAll_pT (l : List It) : l.all (It.allN pT) = true := List.all_eq_true.2 fun x _ => It.all_pT x
theorem CT.all_pT (c : CT) : c.allN pT = true := by cases c with
 | one x => exact It.all_pT x
 | ag l => exact itsAll_pT l
theorem TV.all_pT (c : TV) : c.allN pT = true := by cases c with
 | cv x => exact CT.all_pT x
 | tu l => exact List.all_eq_true.2 fun x _ => CT.all_pT x
theorem Ent.ok_pT (e : Ent) : e.okN pT = true := by unfold Ent.okN; rw [itsAll_pT, Bool.or_true]
theorem swE_look {f : Nat → Nat} : ∀ {E : Env} {t : Nat} {v : TV}, look (swE f E) t = some v → ∃ u, look E t = some u ∧ v = u.mapN f
 | [], _, _, h => by cases h
 | (q, u) :: r, t, v, h => by
  unfold swE at h
  rw [look_cons] at h ⊢
  by_cases hq : q = t
  ·rw [if_pos hq] at h ⊢; injection h with h; exact ⟨u, rfl, h.symm⟩
  ·rw [if_neg hq] at h ⊢; exact swE_look h
theorem swB_look {f : Nat → Nat} (hf : ∀ x, f (f x) = x) : ∀ {B : Bxs} {k : Nat} {e : Ent}, lookB (swB f B) k = some e → ∃ u, lookB B (f k) = some u ∧ e = u.out f
 | [], _, _, h => by cases h
 | (q, some u) :: r, k, e, h => by
  unfold swB at h
  rw [lookB_cons] at h ⊢
  by_cases hq : f q = k
  ·rw [if_pos hq] at h; rw [if_pos (by rw [← hq, hf])]; injection h with h; exact ⟨u, rfl, h.symm⟩
  ·rw [if_neg hq] at h; rw [if_neg (fun hh => hq (by rw [hh, hf]))]; exact swB_look hf h
 | (q, none) :: r, k, e, h => by
  unfold swB at h
  rw [lookB_cons] at h ⊢
  by_cases hq : f q = k
  ·rw [if_pos hq] at h; cases h
  ·rw [if_neg hq] at h; rw [if_neg (fun hh => hq (by rw [hh, hf]))]; exact swB_look hf h
theorem NpB.sw {f : Nat → Nat} : ∀ {B : Bxs}, NpB B → NpB (swB f B)
 | [], h => h
 | (k, none) :: r, h => NpB.sw (B := r) h
 | (k, some e) :: r, h => by
  refine ⟨fun hs => ?_, NpB.sw h.2⟩
  by_cases he : e.sl.isSome = true
  ·rw [Ent.out_sl he]; exact h.1 he
  ·unfold Ent.out at hs
   rw [if_neg he] at hs
   exact absurd hs he
def ltBs (nx : Nat) : Bxs → Bool
 | [] => true
 | (k, some e) :: r => Nat.blt k nx && (e.sl.isSome || e.its.all (It.lt nx)) && ltBs nx r
 | (_, none) :: r => ltBs nx r
theorem ltBs_look {nx : Nat} : ∀ {B : Bxs} {t : Nat} {e : Ent}, ltBs nx B = true → lookB B t = some e → t < nx ∧ (e.sl.isSome || e.its.all (It.lt nx)) = true
 | [], _, _, _, h => by cases h
 | (k, some u) :: r, t, e, h, hv => by
  simp only [ltBs, Bool.and_eq_true] at h
  simp only [lookB] at hv
  split at hv
  ·rename_i hk
   injection hv with hv
   rw [← hv, ← Nat.eq_of_beq_eq_true hk]
   exact ⟨blt_lt h.1.1, h.1.2⟩
  ·exact ltBs_look h.2 hv
 | (k, none) :: r, t, e, h, hv => by
  simp only [ltBs] at h
  simp only [lookB] at hv
  split at hv
  ·cases hv
  ·exact ltBs_look h hv
theorem noPtr_lt {l : List It} (nx : Nat) (h : l.all It.noPtr = true) : l.all (It.lt nx) = true := by
 rw [List.all_eq_true] at h ⊢
 intro x hx
 have := h x hx
 cases x with
 | b _ => rfl
 | fp _ => rfl
 | ptr _ _ => cases this
 | sl _ => cases this
theorem np_app {a b : List It} (h : a.all It.noPtr = true) (h' : b.all It.noPtr = true) : (a ++ b).all It.noPtr = true := by rw [List.all_append, h, h']; rfl
section
variable {P : Program} {I : WInv} {nt : Nat}
theorem sw_leads {E : Env} {B : Bxs} {nx k k' : Nat} (hnp : NpB B) (h1 : 2 ≤ k) (h2 : 2 ≤ k') (h3 : k < nx) (h4 : k' < nx) : Leads I nt ⟨E, B, nx⟩ ⟨swE (swN k k') E, swB (swN k k') B, nx⟩ := by
 rintro N0 w0 a w ⟨N, g, q1, q2⟩
 have hinv := swN_inv k k'
 have hg : ∀ j, pT j = true → (fun x => g (swN k k' x)) (swN k k' j) = g j := fun j _ => by show g (swN k k' (swN k k' j)) = g j; rw [hinv]
 have hb : ∀ x, blkOf (fun x => g (swN k k' x)) x = blkOf g (swN k k' x) := fun x => rfl
 refine ⟨N, fun x => g (swN k k' x), { q1 with slots := ?_, boxes := ?_, inj := ?_, rig := ?_ }, ?_⟩
 ·intro t v hv
  obtain ⟨u, hu, rfl⟩ := swE_look hv
  exact TV.mapN_sem (g2 := fun x => g (swN k k' x)) (f := swN k k') hg (TV.all_pT u) (q1.slots t u hu)
 ·intro x e he
  obtain ⟨u, hu, rfl⟩ := swB_look hinv he
  have := (q1.boxes _ u hu).mapN (g2 := fun x => g (swN k k' x)) (f := swN k k') (p := pT) hg rfl (Ent.ok_pT u) (lookB_np hnp hu)
  rw [hinv] at this
  exact this
 ·intro x y e e' b r1 r2 r3 r4
  obtain ⟨u, hu, _⟩ := swB_look hinv r1
  obtain ⟨v, hv, _⟩ := swB_look hinv r2
  have := q1.inj _ _ u v b hu hv r3 r4
  rw [← hinv x, this, hinv]
 ·intro x v hv
  have := w0.lo x v hv
  show g (swN k k' x) = some v
  rw [swN_out (by omega) (by omega)]
  exact q1.rig x v hv
 ·intro x hx
  have hx : nx ≤ x := hx
  show g (swN k k' x) = none
  rw [swN_out (by omega) (by omega)]
  exact q2 x hx
theorem namT_nx : ∀ (l : List (Nat × Nat)) (s : St), (namT l s).nx = s.nx
 | [], s => rfl
 | (k, k') :: r, s => by rw [namT, namT_nx r]
theorem namT_leads : ∀ (l : List (Nat × Nat)) (s : St), namOk l s.nx = true → NpB s.B → Leads I nt s (namT l s)
 | [], s, _, _ => fun _ _ _ _ h => h
 | (k, k') :: r, s, h, hnp => by
  simp only [namOk, Bool.and_eq_true] at h
  obtain ⟨⟨⟨⟨h1, h2⟩, h3⟩, h4⟩, h5⟩ := h
  exact (sw_leads hnp (Nat.le_of_ble_eq_true h1) (Nat.le_of_ble_eq_true h2) (blt_lt h3) (blt_lt h4)).trans (namT_leads r _ h5 hnp.sw)
theorem cutS_leads {E : Env} {B : Bxs} {nx nx' : Nat} (hE : ltE nx' E = true) (hB : ltBs nx' B = true) (hnp : NpB B) (h2n : 2 ≤ nx') : Leads I nt ⟨E, B, nx⟩ ⟨E, B, nx'⟩ := by
 rintro N0 w0 a w ⟨N, g, h1, h2⟩
 have hlt : ∀ {k e}, lookB B k = some e → k < nx' ∧ e.its.all (It.lt nx') = true := fun he => by
  obtain ⟨r1, r2⟩ := ltBs_look hB he
  refine ⟨r1, ?_⟩
  rw [Bool.or_eq_true] at r2
  exact r2.elim (fun hs => noPtr_lt _ (lookB_np hnp he hs)) id
 refine ⟨N, cutG g nx', { h1 with slots := fun t v hv => TV.lt_sem (ltE_look hE hv) (h1.slots t v hv), boxes := fun k e he => (h1.boxes k e he).cut (hlt he).1 (hlt he).2, inj := ?_, rig := fun x v hv => by rw [cutG_at (Nat.lt_of_lt_of_le (w0.lo x v hv) h2n)]; exact h1.rig x v hv }, fun k hk => by show cutG g nx' k = none; unfold cutG; rw [if_neg (Nat.not_lt.2 hk)]⟩
 intro k j e e' bb q1 q2 q3 q4
 rw [cutG_blk (hlt q1).1] at q3
 rw [cutG_blk (hlt q2).1] at q4
 exact h1.inj k j e e' bb q1 q2 q3 q4
/-- boxes under other names, types that say less, names from t.nx on forgotten -/
theorem nam_leads (l : List (Nat × Nat)) {s t : St} (hE : WkE (namT l s).E t.E) (hB : WkB (namT l s).B t.B) (h1 : namOk l s.nx = true := by rfl) (hnp : NpB s.B := by repeat' first | exact trivial | exact fun h => absurd h Bool.false_ne_true | exact fun _ => mapB_noPtr _ | exact fun _ => rfl | exact fun _ => np_app (mapB_noPtr _) rfl | refine ⟨?_, ?_⟩) (hnp2 : NpB t.B := by repeat' first | exact trivial | exact fun h => absurd h Bool.false_ne_true | exact fun _ => mapB_noPtr _ | exact fun _ => rfl | exact fun _ => np_app (mapB_noPtr _) rfl | refine ⟨?_, ?_⟩) (hn : (Nat.ble s.nx t.nx || (Nat.ble 2 t.nx && ltE t.nx t.E && ltBs t.nx t.B)) = true := by rfl) : Leads I nt s t := by
 have hx := namT_nx l s
 have a := namT_leads (I := I) (nt := nt) l s h1 hnp
 have b : Leads I nt (namT l s) ⟨t.E, t.B, s.nx⟩ := by rw [← hx]; exact weak_leads hE hB
 refine (a.trans b).trans ?_
 rw [Bool.or_eq_true, Bool.and_eq_true, Bool.and_eq_true] at hn
 rcases hn with hn | ⟨⟨h2, h3⟩, h4⟩
 ·rintro N0 w0 a w ⟨N, g, q1, q2⟩
  exact ⟨N, g, q1, fun k hk => q2 k (Nat.le_trans (Nat.le_of_ble_eq_true hn) hk)⟩
 ·exact cutS_leads h3 h4 hnp2 (Nat.le_of_ble_eq_true h2)
theorem Rnd.nam (l : List (Nat × Nat)) {c : Code} {r s t : St} {ex : Exit} (h : Rnd P I nt c r ex s) (hE : WkE (namT l s).E t.E) (hB : WkB (namT l s).B t.B) (h1 : namOk l s.nx = true := by rfl) (hnp : NpB s.B := by repeat' first | exact trivial | exact fun h => absurd h Bool.false_ne_true | exact fun _ => mapB_noPtr _ | exact fun _ => rfl | exact fun _ => np_app (mapB_noPtr _) rfl | refine ⟨?_, ?_⟩) (hnp2 : NpB t.B := by repeat' first | exact trivial | exact fun h => absurd h Bool.false_ne_true | exact fun _ => mapB_noPtr _ | exact fun _ => rfl | exact fun _ => np_app (mapB_noPtr _) rfl | refine ⟨?_, ?_⟩) (hn : (Nat.ble s.nx t.nx || (Nat.ble 2 t.nx && ltE t.nx t.E && ltBs t.nx t.B)) = true := by rfl) : Rnd P I nt c r ex t :=
 h.leads (nam_leads l hE hB h1 hnp hnp2 hn)
def PickE (E : Env) : Env → Prop
 | [] => True
 | (t, v) :: r => look E t = some v ∧ PickE E r
def PickB (B : Bxs) : Bxs → Prop
 | [] => True
 | (k, some e) :: r => lookB B k = some e ∧ PickB B r
 | (_, none) :: r => False
theorem PickE.look {E : Env} : ∀ {F : Env} {t : Nat} {v : TV}, PickE E F → look F t = some v → Go.Proofs.YtflajoflpkboiaaGreat.look E t = some v
 | [], _, _, _, h => by cases h
 | (q, u) :: r, t, v, hp, h => by
  rw [look_cons] at h
  by_cases hq : q = t
  ·rw [if_pos hq] at h; rw [← hq, ← h]; exact hp.1
  ·rw [if_neg hq] at h; exact PickE.look hp.2 h
theorem PickB.look {B : Bxs} : ∀ {F : Bxs} {k : Nat} {e : Ent}, PickB B F → lookB F k = some e → lookB B k = some e
 | [], _, _, _, h => by cases h
 | (q, some u) :: r, k, e, hp, h => by
  rw [lookB_cons] at h
  by_cases hq : q = k
  ·rw [if_pos hq] at h; rw [← hq, ← h]; exact hp.1
  ·rw [if_neg hq] at h; exact PickB.look hp.2 h
 | (q, none) :: r, _, _, hp, _ => hp.elim
/-- slots and boxes in another order, or fewer -/
theorem pick_leads {E E' : Env} {B B' : Bxs} {nx : Nat} (hE : PickE E E') (hB : PickB B B') : Leads I nt ⟨E, B, nx⟩ ⟨E', B', nx⟩ := by
 rintro N0 w0 a w ⟨N, g, h1, h2⟩
 exact ⟨N, g, h1.weak (fun _ _ h => hE.look h) (fun _ _ h => hB.look h), h2⟩
/-- nil in a slot becomes an empty slice of one's own -/
theorem nilA_leads {t k nx : Nat} {E : Env} {B : Bxs} (T s : Nat) (h : look E t = some (tlit (.slice none 0 0))) (h1 : (avE k E && avB k B && Nat.blt k nx && Nat.ble 2 k) = true) (hB : lookB B nx = none) : Leads I nt ⟨E, B, nx⟩ ⟨(t, .cv (.one (.sl k))) :: E, (k, some ⟨T, some (s, 0), []⟩) :: B, nx + 1⟩ := by
 simp only [Bool.and_eq_true] at h1
 have := Nat.le_of_ble_eq_true h1.2
 have a : Leads I nt ⟨E, B, nx⟩ ⟨(t, tlit (.slice none 0 0)) :: E, B, nx⟩ := by
  rintro N0 w0 a w ⟨N, g, q1, q2⟩
  refine ⟨N, g, q1.weak (fun q v hv => ?_) (fun _ _ h => h), q2⟩
  rw [look_cons] at hv
  by_cases hq : t = q
  ·rw [if_pos hq] at hv; rw [← hq, ← hv]; exact h
  ·rw [if_neg hq] at hv; exact hv
 exact a.trans ((nil_leads T s).trans (ren_leads (k := k) h1.1.1.1 h1.1.1.2 rfl (Nat.lt_succ_of_lt (blt_lt h1.1.2)) hB))
theorem ILe.eq {l l' : List It} (h : l = l') : ILe l l' := h ▸ ILe.refl
end
end Go.Proofs.YtflajoflpkboiaaGreat

/- Changes of a tree of one's own: Clone, raise, find, split, New of the program. -/
namespace Go.Proofs.YtflajoflpkboiaaGreat
open Go Go.RowKit
set_option linter.unusedVariables false
set_option linter.unusedSimpArgs false

section
variable {P : Program} {I : WInv} {N : Nat → Prop} {w : World}
/-- a new slice that is handed out, given out of hand -/
def It.fz (i : Item) : It → It
 | .sl _ => .b (.it i)
 | x => x
def CT.fz (i : Item) : CT → CT
 | .one x => .one (x.fz i)
 | .ag l => .ag (l.map (It.fz i))
def TV.fz (i : Item) : TV → TV
 | .cv c => .cv (c.fz i)
 | .tu l => .tu (l.map (CT.fz i))
def It.ok2 : It → Bool
 | .sl k => Nat.beq k 2
 | .ptr _ _ => false
 | _ => true
def CT.ok2 : CT → Bool
 | .one x => x.ok2
 | .ag l => l.all It.ok2
def TV.ok2 : TV → Bool
 | .cv c => c.ok2
 | .tu l => l.all CT.ok2
variable {N1 : Nat → Prop} {g : Gh} {i : Item}
theorem It.fz_sem (hN : ∀ b, N b → N1 b) (hs : ∀ l, (It.sl 2).sem N w g l → i.T N1 w l) {x : It} {l : List Value} (hx : x.ok2 = true) (h : x.sem N w g l) : (x.fz i).sem N1 w G0 l := by
 cases x with
 | b x => exact It0.step h (WStep.refl _ _) hN
 | ptr k off => cases hx
 | fp x => obtain ⟨b, off, h1, h2⟩ := h; exact ⟨b, off, h1, h2.step (WStep.refl _ _) hN⟩
 | sl k =>
  have := Nat.eq_of_beq_eq_true hx
  subst this
  exact hs l h
theorem semL_fz (hN : ∀ b, N b → N1 b) (hs : ∀ l, (It.sl 2).sem N w g l → i.T N1 w l) : ∀ {xs : List It} {l : List Value}, xs.all It.ok2 = true → semL N w g xs l → semL N1 w G0 (xs.map (It.fz i)) l
 | [], _, _, h => h
 | x :: xs, _, hn, ⟨l1, l2, e, h1, h2⟩ => by
  simp only [List.all_cons, Bool.and_eq_true] at hn
  exact ⟨l1, l2, e, It.fz_sem hN hs hn.1 h1, semL_fz hN hs hn.2 h2⟩
theorem CT.fz_sem (hN : ∀ b, N b → N1 b) (hs : ∀ l, (It.sl 2).sem N w g l → i.T N1 w l) {c : CT} {v : Value} (hc : c.ok2 = true) (h : c.sem N w g v) : (c.fz i).sem N1 w G0 v := by
 cases c with
 | one x => exact It.fz_sem hN hs hc h
 | ag l => obtain ⟨vs, e, h1⟩ := h; exact ⟨vs, e, semL_fz hN hs hc h1⟩
theorem all2_fz (hN : ∀ b, N b → N1 b) (hs : ∀ l, (It.sl 2).sem N w g l → i.T N1 w l) : ∀ {cs : List CT} {vs : List Value}, cs.all CT.ok2 = true → all2 (CT.sem N w g) cs vs → all2 (CT.sem N1 w G0) (cs.map (CT.fz i)) vs
 | [], _, _, h => h
 | c :: cs, _, hn, ⟨v, l, e, h1, h2⟩ => by
  simp only [List.all_cons, Bool.and_eq_true] at hn
  exact ⟨v, l, e, CT.fz_sem hN hs hn.1 h1, all2_fz hN hs hn.2 h2⟩
theorem TV.fz_sem (hN : ∀ b, N b → N1 b) (hs : ∀ l, (It.sl 2).sem N w g l → i.T N1 w l) {c : TV} {v : Value} (hc : c.ok2 = true) (h : c.sem N w g v) : (c.fz i).sem N1 w G0 v := by
 cases c with
 | cv x => exact CT.fz_sem hN hs hc h
 | tu l => obtain ⟨vs, e, h1⟩ := h; exact ⟨vs, e, all2_fz hN hs hc h1⟩
theorem own_item2 {K : Nat → Prop} {k T sz n : Nat} {rows : List (List It0)} (hbox : BoxSem N w g K k ⟨T, some (sz, n), flatR rows⟩) (hn : n = rows.length) (hw : ∀ r ∈ rows, widthO r = sz) {l : List Value} (h : (It.sl k).sem N w g l) : (slI sz rows).T (fun b => N b ∨ blkOf g k = some b) w l := own_item hbox hn hw h
/-- a function that hands out a new slice, as one whose result stays -/
theorem SpM.freeze {f : FuncId} {args : List CT} {res : TV} {T sz n : Nat} {rows : List (List It0)} (h : SpM P I f [] args [(2, some ⟨T, some (sz, n), flatR rows⟩)] res) (hn : n = rows.length) (hw : ∀ r ∈ rows, widthO r = sz) (hok : res.ok2 = true) : Sp P I f args (res.fz (slI sz rows)) := by
 intro N w vs hI hlow hargs
 refine (h N (fun b => b < w.heap.size) w G0 vs hI hlow (fun b hb => hb) (fun k e he => by cases he) (fun k j e e' b he => by cases he) (fun k _ => rfl) hargs).mono ?_
 rintro en w' ⟨v, N', g', rfl, q1, q2, q3, q4, q5, q6, q7⟩
 have hbox := q4 2 _ rfl
 refine ⟨v, rfl, ?_, below_k q3⟩
 have hx := TV.fz_sem (N := N') (N1 := fun b => N' b ∨ blkOf g' 2 = some b) (i := slI sz rows) (fun b hb => .inl hb) (fun l hl => own_item2 hbox hn hw hl) hok q7
 refine TV.step hx (WStep.refl _ _) ?_ (GExt.refl _)
 rintro b (hb | hb)
 ·rcases q2 b hb with hb | ⟨hb1, hb2⟩
  ·exact .inl hb
  ·exact .inr ⟨Nat.not_lt.1 hb1, hb2⟩
 ·obtain ⟨cs, m, h1, _, _, h4, h5, _⟩ := hbox.at hb
  exact .inr ⟨Nat.not_lt.1 h5, (Array.getElem?_eq_some_iff.1 h1).1⟩
end
end Go.Proofs.YtflajoflpkboiaaGreat

/- Changes of a tree of one's own: Clone, raise, find, split of the program. -/
namespace Go.Proofs.YtflajoflpkboiaaGreat
open Go Go.RowKit
set_option linter.unusedVariables false
set_option linter.unusedSimpArgs false

section
variable {P : Program} {I : WInv}
theorem rows_cat {N : Nat → Prop} {w : World} {b sz : Nat} {cs : Array Value} {T : TypeId} {fr : Nat × Nat} (hb : w.heap[b]? = some (.cells cs T fr)) : ∀ (rows : List (List It0)) (off : Nat), (∀ r ∈ rows, widthO r = sz) → (∀ i r, rows[i]? = some r → RowAt N w b (off + i * sz) r) → ∃ vs : List Value, vs.length = rows.length * sz ∧ semL0 N w rows.flatten vs ∧ (cs.toList.drop off).take vs.length = vs
 | [], off, _, _ => ⟨[], by simp, rfl, by simp⟩
 | r :: rows, off, hw, h => by
  obtain ⟨cs', T', fr', us, _, h2, h3, h4⟩ := h 0 r rfl
  rw [hb] at h2
  injection h2 with h2
  injection h2 with e1 e2 e3
  subst e1
  rw [Nat.zero_mul, Nat.add_zero] at h3
  have hl := semL0_len h4
  rw [hw r (by simp)] at hl
  obtain ⟨vs, k1, k2, k3⟩ := rows_cat hb rows (off + sz) (fun q hq => hw q (by simp [hq])) fun i q hi => by
   have := h (i + 1) q (by simpa using hi)
   rw [Nat.add_mul, Nat.one_mul] at this
   rw [show off + sz + i * sz = off + (i * sz + sz) by omega]; exact this
  refine ⟨us ++ vs, by rw [List.length_append, hl, k1, List.length_cons, Nat.add_mul]; omega, ?_, ?_⟩
  ·have app : ∀ {xs ys : List It0} {l1 l2 : List Value}, semL0 N w xs l1 → semL0 N w ys l2 → semL0 N w (xs ++ ys) (l1 ++ l2) := by
    intro xs
    induction xs with
    | nil => intro ys l1 l2 a b; rw [show l1 = [] from a]; exact b
    | cons x xs ih => rintro ys l1 l2 ⟨p, q, e, a1, a2⟩ b; exact ⟨p, q ++ l2, by rw [e, List.append_assoc], a1, ih a2 b⟩
   exact app h4 k2
  ·rw [List.length_append, List.take_add, h3, List.drop_drop, hl, k3]
/-- a slice that stays, as a source of append -/
theorem sl_src {sz : Nat} {rows : List (List It0)} (hw : ∀ r ∈ rows, widthO r = sz) (hok : (rows.flatten.map It.b).all It.okB = true) : SrcOb sz (slI sz rows) rows.length rows.flatten := by
 rintro N w l ⟨A, c, e, h1, h2, h3⟩
 by_cases hne : rows = []
 ·subst hne
  cases A with
  | none => exact ⟨none, c, e, .inl ⟨rfl, rfl, rfl⟩⟩
  | some a => exact ⟨some a, c, e, .inr ⟨a, [], rfl, by simp, rfl, by simp, by simp⟩⟩
 obtain ⟨b, off, rfl, hr⟩ := h3 hne
 obtain ⟨r0, rs, hrows⟩ := List.exists_cons_of_ne_nil hne
 obtain ⟨cs, T, fr, _, _, hb, _, _⟩ := hr 0 r0 (by rw [hrows]; rfl)
 obtain ⟨vs, k1, k2, k3⟩ := rows_cat hb rows off hw hr
 refine ⟨_, c, e, .inr ⟨_, vs, rfl, k1, k2, semL_cells (g := G0) (semL0_semL k2) hok, ?_⟩⟩
 intro j u hj
 rw [addr_add]
 have hj' := hj
 rw [← k3, List.getElem?_take] at hj
 split at hj
 ·rw [List.getElem?_drop] at hj
  simp only [World.cell?, hb]; simpa using hj
 ·cases hj
theorem eq_slice_nil (w : World) (d : Nat) {t e : TypeId} {a : Addr} {n c : Nat} (ht : P.underlying t = some (.slice e)) : (Op.equalIn (d + 1) t (.slice (some a) n c) (.slice none 0 0)).run P w = .ok false w := by
 simp [Op.equalIn, underlying_run ht]
theorem sl_nil {t e : TypeId} {sz : Nat} {rows : List (List It0)} (ht : P.underlying t = some (.slice e)) (hne : rows ≠ []) : OpOb P (.bin .eql t) [tit (slI sz rows), tlit (.slice none 0 0)] (lb false) := by
 intro N w g vs hv
 obtain ⟨v, x, rfl, ⟨A, c, e1, _, _, h⟩, h2⟩ := all2T_two hv
 injection e1 with e1
 subst e1
 have h2 : [x] = [.slice none 0 0] := h2
 injection h2 with h2
 subst h2
 obtain ⟨b, off, rfl, _⟩ := h hne
 refine ⟨.bool false, w, ?_, Below.refl _ _, (rfl : [_] = [_])⟩
 have key : (Op.equal t (.slice (some ⟨b, off, none⟩) rows.length c) (.slice none 0 0)).run P w = .ok false w := eq_slice_nil w 9999 ht
 simp only [OpK.run, Sem.run_bind, eqGuard]
 simp [binOp, key]
end
/-! ### nodes of one's own -/
theorem rowT_ok {c : Bool} {L : List Nd} : okR 9 (L.map (rowT c)) := by
 intro r hr
 obtain ⟨x, _, rfl⟩ := List.mem_map.1 hr
 refine ⟨rfl, fun y hy => ?_⟩
 simp at hy
 rcases hy with rfl | rfl | rfl | rfl | rfl | rfl <;> first | exact Nat.one_pos | exact (by decide : 0 < 4)
theorem rowT_w {c : Bool} {L : List Nd} : ∀ r ∈ L.map (rowT c), widthO r = 9 := fun r hr => (rowT_ok r hr).1
theorem rowT_cells {c : Bool} {L : List Nd} : ((L.map (rowT c)).flatten.map It.b).all It.okB = true := by
 rw [List.all_eq_true]
 intro x hx
 obtain ⟨y, hy, rfl⟩ := List.mem_map.1 hx
 obtain ⟨r, hr, hy⟩ := List.mem_flatten.1 hy
 obtain ⟨d, _, rfl⟩ := List.mem_map.1 hr
 simp at hy
 rcases hy with rfl | rfl | rfl | rfl | rfl | rfl <;> rfl
theorem sub_nd {c : Bool} {L : List Nd} {i fo n : Nat} {m : List It} (h : i < L.length) (hs : subAt ((rowT c (tat L i)).map It.b) fo n = some m) : subAt (flatR (L.map (rowT c))) (i * 9 + fo) n = some m := sub_row (tat_row h) rowT_ok hs
theorem upd_nd {c : Bool} {L : List Nd} {i fo : Nat} {new : List It} (h : i < L.length) (y : Nd) (hu : updAt ((rowT c (tat L i)).map It.b) fo new = some ((rowT c y).map It.b)) : updAt (flatR (L.map (rowT c))) (i * 9 + fo) new = some (flatR ((L.set i y).map (rowT c))) := by
 have := upd_row (sz := 9) (tat_row (f := rowT c) h) rowT_ok hu
 rw [← List.map_set] at this
 exact this
structure Ch where
 kind : Int
 node : Int
 q : Rat
 fst : Int
 nxt : Int
 cost : Int
/-- a change, handed over by value -/
abbrev chT (c : Bool) (x : Ch) : CT := .ag [.b (.lit (.int .i64 x.kind)), .b (.lit (.int .i64 x.node)), .b (.it (fF c 12 x.q)), .b (.lit (.int .i64 x.fst)), .b (.lit (.int .i64 x.nxt)), .b (.lit (.int .i64 x.cost))]
abbrev tbx (f : Bool) (z : Int) (k : Nat) : Ent := ⟨25, none, [.sl k, .b (.lit (.bool f)), .b (.lit (.int .i64 z))]⟩
abbrev nbx (c : Bool) (L : List Nd) (n : Nat) : Ent := ⟨57, some (9, n), flatR (L.map (rowT c))⟩
section
variable {I : WInv} {c c' : Bool} {p : Rat}
theorem fresh_c : Sp Tryz.prog I 39 [fc c' 12 p] (tfc c 12 p) := (fresh_sp (c := c')).rs (fc_le (fun _ => rfl) (Nat.le_refl _) rfl).tv

theorem clone_spn (L : List Nd) (h0 : 0 < L.length) (hl : L.length ≤ 1000000) : SpN Tryz.prog I 37 [.one (.b (.it (trI c L)))] none (nbx c L L.length) := by
 have hlen : (L.map (rowT c)).length = L.length := List.length_map _
 have hne : L.map (rowT c) ≠ [] := fun h => by rw [h] at hlen; simp at hlen; omega
 have hl2 := hl
 rw [← hlen] at hl2
 have h : SpN Tryz.prog I 37 [.one (.b (.it (trI c L)))] none (nbx c L (0 + (L.map (rowT c)).length)) := spn_run (nt := 8) 5 1000 [pk (sl_nil (P := Tryz.prog) (t := 23) (e := 57) (sz := 9) (rows := L.map (rowT c)) (by kernel_rfl) hne), ⟨.src 9 (slI 9 (L.map (rowT c))) (L.map (rowT c)).length (L.map (rowT c)).flatten, sl_src rowT_w rowT_cells⟩, ⟨.ap 0 ((L.map (rowT c)).length) 104, ⟨by omega, by simp [maxLen]; omega⟩⟩] (mapB_noPtr _) (by kernel_rfl)
 rw [Nat.zero_add, hlen] at h
 exact h
end
end Go.Proofs.YtflajoflpkboiaaGreat

/- raise, find, split of the program. -/
namespace Go.Proofs.YtflajoflpkboiaaGreat
open Go Go.RowKit
set_option linter.unusedVariables false
set_option linter.unusedSimpArgs false

theorem tat_set {L : List Nd} {i j : Nat} {y : Nd} (h : i < L.length) : tat (L.set i y) j = if i = j then y else tat L j := by
 unfold tat
 rw [List.getD_eq_getElem?_getD, List.getD_eq_getElem?_getD, List.getElem?_set]
 by_cases hij : i = j
 ·subst hij; rw [if_pos rfl, if_pos rfl, if_pos h]; rfl
 ·rw [if_neg hij, if_neg hij]
theorem tat_left {L M : List Nd} {i : Nat} (h : i < L.length) : tat (L ++ M) i = tat L i := by
 unfold tat
 rw [List.getD_eq_getElem?_getD, List.getD_eq_getElem?_getD, List.getElem?_append_left h]
def raE (L : List Nd) (x : Ch) : Int := if x.node < 0 ∨ (L.length : Int) ≤ x.node then 5 else if okc x.q = false then 5 else if (tat L x.node.toNat).st ≠ 0 then 16 else 0
def raL (L : List Nd) (x : Ch) : List Nd := if (tat L x.node.toNat).q < x.q then L.set x.node.toNat ⟨(tat L x.node.toNat).par, (tat L x.node.toNat).fst, (tat L x.node.toNat).nxt, (tat L x.node.toNat).tog, x.q, (tat L x.node.toNat).st⟩ else L
def fiE (x : Ch) : Int := if costB x.cost then 0 else 5
def spE (L : List Nd) (x : Ch) : Int := if x.node < 0 ∨ (L.length : Int) ≤ x.node ∨ x.fst < 0 ∨ x.nxt < 0 ∨ x.fst = x.nxt then 5 else if (tat L x.node.toNat).st ≠ 0 then 16 else if 2000 < L.length + 2 ∨ 32 ≤ (pathD L x.node.toNat).length then 10 else if decB L x.node.toNat x.fst x.nxt then 20 else 0
/-- the new node of a decision -/
def kid (L : List Nd) (x : Ch) (b : Bool) : Nd := ⟨x.node, x.fst, x.nxt, b, (tat L x.node.toNat).q, 0⟩
def marked (L : List Nd) (i : Nat) : List Nd := L.set i ⟨(tat L i).par, (tat L i).fst, (tat L i).nxt, (tat L i).tog, (tat L i).q, 1⟩
def spL (L : List Nd) (x : Ch) : List Nd := marked L x.node.toNat ++ [kid L x true, kid L x false]
theorem cmpq_gtT {a b : Rat} (h : b < a) : decide (cmpq a b > 0) = true := by
 unfold cmpq
 rw [if_neg (by grind), if_neg (by grind)]; rfl
theorem cmpq_gtF {a b : Rat} (h : ¬ b < a) : decide (cmpq a b > 0) = false := by
 unfold cmpq
 by_cases h1 : a < b
 ·rw [if_pos h1]; rfl
 ·rw [if_neg h1, if_pos (by grind)]; rfl
section
variable {I : WInv} {c c' : Bool}

theorem raise_err (L : List Nd) (f : Bool) (z : Int) (n : Nat) (hn : L.length = n) (x : Ch) (h : raE L x ≠ 0) : SpM Tryz.prog I 65 [(0, some (tbx f z 1)), (1, some (nbx c L n))] [.one (.ptr 0 0), chT c' x] [(0, some (tbx f z 1)), (1, some (nbx c L n))] (li (raE L x)) := by
 unfold raE at h ⊢
 by_cases h1 : x.node < 0
 ·rw [if_pos (.inl h1)]
  exact spm_run (nt := 55) 1000 [pk (bT_lss 3 x.node 0)] (by kernel_rfl)
 ·by_cases h2 : (L.length : Int) ≤ x.node
  ·rw [if_pos (.inr h2)]
   exact spm_run (nt := 55) 1000 [pk (bF_lss 3 x.node 0), pk (bT_geq 3 x.node (n : Nat))] (by kernel_rfl)
  ·rw [if_neg (by omega)] at h ⊢
   have hce := ceilInt_sp (I := I) (c := c') (p := x.q)
   cases h3 : okc x.q with
   | false =>
    rw [cie_no h3] at hce
    rw [if_pos rfl]
    exact spm_run (nt := 55) 1000 [pk (bF_lss 3 x.node 0), pk (bF_geq 3 x.node (n : Nat)), po (hce), pa] (by kernel_rfl)
   | true =>
    rw [cie_ok h3] at hce
    rw [h3, if_neg (by decide)] at h
    rw [if_neg (by decide)]
    obtain ⟨i, hni⟩ : ∃ i : Nat, x.node = (i : Int) := ⟨x.node.toNat, by omega⟩
    have hi : i < L.length := by omega
    have ht : x.node.toNat = i := by omega
    rw [ht] at h ⊢
    by_cases h4 : (tat L i).st = 0
    ·rw [if_neg (by simp [h4])] at h; exact absurd rfl h
    ·rw [if_pos h4]
     exact spm_run (nt := 55) 1000 [pk (bF_lss 3 x.node 0), pk (bF_geq 3 x.node (n : Nat)), po (hce), pa, ⟨.ix x.node i n, ⟨by omega, by omega⟩⟩, ⟨.part (flatR ((L).map (rowT c))) (i * 9 + 8) 1 [.b (.lit (.int .i64 ((tat L i).st)))], (sub_nd (c := c) (fo := 8) (n := 1) hi rfl)⟩, pk (b_neq 3 ((tat L i).st) 0 true (decide_eq_false h4))] (by kernel_rfl)
theorem raise_ok (L : List Nd) (f : Bool) (z : Int) (n : Nat) (hn : L.length = n) (x : Ch) (h : raE L x = 0) : SpM Tryz.prog I 65 [(0, some (tbx f z 1)), (1, some (nbx c L n))] [.one (.ptr 0 0), chT c' x] [(0, some (tbx f z 1)), (1, some (nbx c (raL L x) n))] (li 0) := by
 unfold raE at h
 unfold raL
 by_cases h1 : x.node < 0 ∨ (L.length : Int) ≤ x.node
 ·rw [if_pos h1] at h; omega
 ·rw [if_neg h1] at h
  cases h3 : okc x.q with
  | false => rw [h3, if_pos rfl] at h; omega
  | true =>
   rw [h3, if_neg (by decide)] at h
   have hce := ceilInt_sp (I := I) (c := c') (p := x.q)
   rw [cie_ok h3] at hce
   obtain ⟨i, hni⟩ : ∃ i : Nat, x.node = (i : Int) := ⟨x.node.toNat, by omega⟩
   have hi : i < L.length := by omega
   have ht : x.node.toNat = i := by omega
   rw [ht] at h ⊢
   by_cases h4 : (tat L i).st = 0
   ·by_cases h5 : (tat L i).q < x.q
    ·rw [if_pos h5]
     exact spm_run (nt := 55) 1000 [pk (bF_lss 3 x.node 0), pk (bF_geq 3 x.node (n : Nat)), po (hce), pa, ⟨.ix x.node i n, ⟨by omega, by omega⟩⟩, ⟨.part (flatR ((L).map (rowT c))) (i * 9 + 8) 1 [.b (.lit (.int .i64 ((tat L i).st)))], (sub_nd (c := c) (fo := 8) (n := 1) hi rfl)⟩, pk (b_neq 3 ((tat L i).st) 0 false (decide_eq_true h4)), ⟨.part ([.b (.lit (.int .i64 x.kind)), .b (.lit (.int .i64 x.node)), .b (.it (fF c' 12 x.q)), .b (.lit (.int .i64 x.fst)), .b (.lit (.int .i64 x.nxt)), .b (.lit (.int .i64 x.cost))]) 2 4 [.b (.it (fF c' 12 x.q))], rfl⟩, ⟨.part (flatR ((L).map (rowT c))) (i * 9 + 4) 4 [.b (.it (fF c 12 (tat L i).q))], (sub_nd (c := c) (fo := 4) (n := 4) hi rfl)⟩, po (cmpF (I := I) (c := c') (c' := c) (k := 12) (j := 12) (p := x.q) (q := (tat L i).q) (r := cmpq x.q ((tat L i).q)) rfl (by omega)), pk (b_gtr 3 (cmpq x.q ((tat L i).q)) 0 true (cmpq_gtT h5)), po (fresh_c (I := I) (c := c) (c' := c') (p := x.q)), ⟨.upd (flatR ((L).map (rowT c))) (i * 9 + 4) [.b (.it (fF c 12 x.q))] (flatR (((L).set i ⟨(tat L i).par, (tat L i).fst, (tat L i).nxt, (tat L i).tog, x.q, (tat L i).st⟩).map (rowT c))), (upd_nd (c := c) (fo := 4) hi ⟨(tat L i).par, (tat L i).fst, (tat L i).nxt, (tat L i).tog, x.q, (tat L i).st⟩ rfl)⟩] (by kernel_rfl)
    ·rw [if_neg h5]
     exact spm_run (nt := 55) 1000 [pk (bF_lss 3 x.node 0), pk (bF_geq 3 x.node (n : Nat)), po (hce), pa, ⟨.ix x.node i n, ⟨by omega, by omega⟩⟩, ⟨.part (flatR ((L).map (rowT c))) (i * 9 + 8) 1 [.b (.lit (.int .i64 ((tat L i).st)))], (sub_nd (c := c) (fo := 8) (n := 1) hi rfl)⟩, pk (b_neq 3 ((tat L i).st) 0 false (decide_eq_true h4)), ⟨.part ([.b (.lit (.int .i64 x.kind)), .b (.lit (.int .i64 x.node)), .b (.it (fF c' 12 x.q)), .b (.lit (.int .i64 x.fst)), .b (.lit (.int .i64 x.nxt)), .b (.lit (.int .i64 x.cost))]) 2 4 [.b (.it (fF c' 12 x.q))], rfl⟩, ⟨.part (flatR ((L).map (rowT c))) (i * 9 + 4) 4 [.b (.it (fF c 12 (tat L i).q))], (sub_nd (c := c) (fo := 4) (n := 4) hi rfl)⟩, po (cmpF (I := I) (c := c') (c' := c) (k := 12) (j := 12) (p := x.q) (q := (tat L i).q) (r := cmpq x.q ((tat L i).q)) rfl (by omega)), pk (b_gtr 3 (cmpq x.q ((tat L i).q)) 0 false (cmpq_gtF h5))] (by kernel_rfl)
   ·rw [if_pos h4] at h; omega

def fnF (f : Bool) (z : Int) (x : Ch) : Bool × Int := if f = false ∨ x.cost < z then (true, x.cost) else (f, z)
theorem find_err (f : Bool) (z : Int) (k : Ent) (x : Ch) (h : fiE x ≠ 0) : SpM Tryz.prog I 67 [(0, some (tbx f z 1)), (1, some k)] [.one (.ptr 0 0), chT c' x] [(0, some (tbx f z 1)), (1, some k)] (li (fiE x)) := by
 unfold fiE at h ⊢
 have hc := cost_sp (I := I) x.cost
 cases h1 : costB x.cost with
 | true => rw [h1] at h; exact absurd rfl h
 | false =>
  rw [h1] at hc
  exact spm_run (nt := 31) 1000 [po (hc), pa] (by kernel_rfl)
theorem find_ok (f : Bool) (z : Int) (k : Ent) (x : Ch) (h : fiE x = 0) : SpM Tryz.prog I 67 [(0, some (tbx f z 1)), (1, some k)] [.one (.ptr 0 0), chT c' x] [(0, some (tbx (fnF f z x).1 (fnF f z x).2 1)), (1, some k)] (li 0) := by
 have h1 : costB x.cost = true := by
  unfold fiE at h
  cases h1 : costB x.cost with
  | true => rfl
  | false => rw [h1] at h; exact absurd h (by decide)
 have hc := cost_sp (I := I) x.cost
 rw [h1] at hc
 unfold fnF
 cases f with
 | false =>
  rw [if_pos (.inl rfl)]
  exact spm_run (nt := 31) 1000 [po (hc), pa, pa] (by kernel_rfl)
 | true =>
  by_cases h2 : x.cost < z
  ·rw [if_pos (.inr h2)]
   exact spm_run (nt := 31) 1000 [po (hc), pa, pa, pk (bT_lss 3 x.cost z)] (by kernel_rfl)
  ·rw [if_neg (by simp [h2])]
   exact spm_run (nt := 31) 1000 [po (hc), pa, pa, pk (bF_lss 3 x.cost z)] (by kernel_rfl)

theorem borrow_path {L : List Nd} (f : Bool) (z : Int) (n : Nat) (hn : L.length = n) (i : Nat) (hD : Dn L (L.length - 1)) (hi : i < L.length) (hl : L.length ≤ 1000000) : SpM Tryz.prog I 64 [(0, some (nbx c L n))] [.ag [.sl 0, .b (.lit (.bool f)), .b (.lit (.int .i64 z))], ci (i : Int)] [(0, some (nbx c L n))] (tit (lnI (pathD L i).length)) :=
 borrow (args := [.ag [.sl 0, .b (.lit (.bool f)), .b (.lit (.int .i64 z))], ci (i : Int)]) (path_sp L f z i (fun j h0 hj => hD j h0 (by omega)) hi hl) (by rw [List.length_map]; exact hn.symm) rowT_w rfl (sl_free (by rw [List.length_map])) rfl
theorem borrow_decided {L : List Nd} (f : Bool) (z : Int) (n : Nat) (hn : L.length = n) (i : Nat) (x y : Int) (hD : Dn L (L.length - 1)) (hi : i < L.length) : SpM Tryz.prog I 78 [(0, some (nbx c L n))] [.ag [.sl 0, .b (.lit (.bool f)), .b (.lit (.int .i64 z))], ci (i : Int), ci x, ci y] [(0, some (nbx c L n))] (lb (decB L i x y)) :=
 borrow (args := [.ag [.sl 0, .b (.lit (.bool f)), .b (.lit (.int .i64 z))], ci (i : Int), ci x, ci y]) (decided_sp L f z i x y (fun j h0 hj => hD j h0 (by omega)) hi) (by rw [List.length_map]; exact hn.symm) rowT_w rfl lit_free rfl
theorem split_err (L : List Nd) (f : Bool) (z : Int) (n : Nat) (hn : L.length = n) (hl : n ≤ 2000) (hD : Dn L (L.length - 1)) (x : Ch) (h : spE L x ≠ 0) : SpM Tryz.prog I 66 [(0, some (tbx f z 1)), (1, some (nbx c L n))] [.one (.ptr 0 0), chT c' x] [(0, some (tbx f z 1)), (1, some (nbx c L n))] (li (spE L x)) := by
 unfold spE at h ⊢
 by_cases h1 : x.node < 0
 ·rw [if_pos (.inl h1)]
  exact spm_run (nt := 121) 1000 [pk (bT_lss 3 x.node 0)] (by kernel_rfl)
 ·by_cases h2 : (L.length : Int) ≤ x.node
  ·rw [if_pos (.inr (.inl h2))]
   exact spm_run (nt := 121) 1000 [pk (bF_lss 3 x.node 0), pk (bT_geq 3 x.node (n : Nat))] (by kernel_rfl)
  ·by_cases h3 : x.fst < 0
   ·rw [if_pos (.inr (.inr (.inl h3)))]
    exact spm_run (nt := 121) 1000 [pk (bF_lss 3 x.node 0), pk (bF_geq 3 x.node (n : Nat)), pk (bT_lss 3 x.fst 0)] (by kernel_rfl)
   ·by_cases h4 : x.nxt < 0
    ·rw [if_pos (.inr (.inr (.inr (.inl h4))))]
     exact spm_run (nt := 121) 1000 [pk (bF_lss 3 x.node 0), pk (bF_geq 3 x.node (n : Nat)), pk (bF_lss 3 x.fst 0), pk (bT_lss 3 x.nxt 0)] (by kernel_rfl)
    ·by_cases h5 : x.fst = x.nxt
     ·rw [if_pos (.inr (.inr (.inr (.inr h5))))]
      exact spm_run (nt := 121) 1000 [pk (bF_lss 3 x.node 0), pk (bF_geq 3 x.node (n : Nat)), pk (bF_lss 3 x.fst 0), pk (bF_lss 3 x.nxt 0), pk (bT_eql 3 x.fst x.nxt)] (by kernel_rfl)
     ·rw [if_neg (by omega)] at h ⊢
      obtain ⟨i, hni⟩ : ∃ i : Nat, x.node = (i : Int) := ⟨x.node.toNat, by omega⟩
      have hi : i < L.length := by omega
      have ht : x.node.toNat = i := by omega
      rw [ht] at h ⊢
      by_cases h6 : (tat L i).st = 0
      ·rw [if_neg (by simp [h6])] at h ⊢
       have hpa := borrow_path (I := I) (c := c) f z n hn i hD hi (by omega)
       have hde := borrow_decided (I := I) (c := c) f z n hn i x.fst x.nxt hD hi
       rw [← hni] at hpa hde
       generalize (pathD L i).length = k at *
       by_cases h7 : 2000 < L.length + 2
       ·rw [if_pos (.inl h7)]
        exact spm_run (nt := 121) 1000 [pk (bF_lss 3 x.node 0), pk (bF_geq 3 x.node (n : Nat)), pk (bF_lss 3 x.fst 0), pk (bF_lss 3 x.nxt 0), pk (bF_eql 3 x.fst x.nxt), ⟨.ix x.node i n, ⟨by omega, by omega⟩⟩, ⟨.part (flatR ((L).map (rowT c))) (i * 9 + 8) 1 [.b (.lit (.int .i64 ((tat L i).st)))], (sub_nd (c := c) (fo := 8) (n := 1) hi rfl)⟩, pk (b_neq 3 ((tat L i).st) 0 false (decide_eq_true h6)), pk (b_add 3 (n : Nat) 2 ⟨by omega, by omega⟩), pk (bT_gtr 3 ((n : Nat) + 2) 2000)] (by kernel_rfl)
       ·by_cases h8 : 32 ≤ k
        ·rw [if_pos (.inr h8)]
         exact spm_run (nt := 121) 1000 [pk (bF_lss 3 x.node 0), pk (bF_geq 3 x.node (n : Nat)), pk (bF_lss 3 x.fst 0), pk (bF_lss 3 x.nxt 0), pk (bF_eql 3 x.fst x.nxt), ⟨.ix x.node i n, ⟨by omega, by omega⟩⟩, ⟨.part (flatR ((L).map (rowT c))) (i * 9 + 8) 1 [.b (.lit (.int .i64 ((tat L i).st)))], (sub_nd (c := c) (fo := 8) (n := 1) hi rfl)⟩, pk (b_neq 3 ((tat L i).st) 0 false (decide_eq_true h6)), pk (b_add 3 (n : Nat) 2 ⟨by omega, by omega⟩), pk (bF_gtr 3 ((n : Nat) + 2) 2000), pom [1] (hpa), pk (ln_len 62 55 3 k (by kernel_rfl)), pk (bT_geq 3 (k : Int) 32)] (by kernel_rfl)
        ·rw [if_neg (by omega)] at h ⊢
         cases h9 : decB L i x.fst x.nxt with
         | false => rw [h9] at h; exact absurd rfl h
         | true =>
          rw [h9] at hde
          exact spm_run (nt := 121) 1000 [pk (bF_lss 3 x.node 0), pk (bF_geq 3 x.node (n : Nat)), pk (bF_lss 3 x.fst 0), pk (bF_lss 3 x.nxt 0), pk (bF_eql 3 x.fst x.nxt), ⟨.ix x.node i n, ⟨by omega, by omega⟩⟩, ⟨.part (flatR ((L).map (rowT c))) (i * 9 + 8) 1 [.b (.lit (.int .i64 ((tat L i).st)))], (sub_nd (c := c) (fo := 8) (n := 1) hi rfl)⟩, pk (b_neq 3 ((tat L i).st) 0 false (decide_eq_true h6)), pk (b_add 3 (n : Nat) 2 ⟨by omega, by omega⟩), pk (bF_gtr 3 ((n : Nat) + 2) 2000), pom [1] (hpa), pk (ln_len 62 55 3 k (by kernel_rfl)), pk (bF_geq 3 (k : Int) 32), pom [1] (hde)] (by kernel_rfl)
      ·rw [if_pos h6]
       exact spm_run (nt := 121) 1000 [pk (bF_lss 3 x.node 0), pk (bF_geq 3 x.node (n : Nat)), pk (bF_lss 3 x.fst 0), pk (bF_lss 3 x.nxt 0), pk (bF_eql 3 x.fst x.nxt), ⟨.ix x.node i n, ⟨by omega, by omega⟩⟩, ⟨.part (flatR ((L).map (rowT c))) (i * 9 + 8) 1 [.b (.lit (.int .i64 ((tat L i).st)))], (sub_nd (c := c) (fo := 8) (n := 1) hi rfl)⟩, pk (b_neq 3 ((tat L i).st) 0 true (decide_eq_false h6))] (by kernel_rfl)

theorem split_round0 (M : List Nd) (f : Bool) (z : Int) (n : Nat) (hn : M.length = n) (hl : n ≤ 2000) (x : Ch) (i : Nat) (hni : x.node = (i : Int)) (hi : i < M.length) : Rnd Tryz.prog I 121 (loopC Tryz.prog 66 0) ⟨[(0, .cv (.one (.ptr 0 0))), (3, .cv (.one (.ptr 3 0))), (86, .cv (.one (.sl 85))), (87, .cv (.one (.b (.lit (.int .i64 2))))), (88, .cv (.one (.b (.lit (.int .i64 0)))))], [(1, some ⟨57, some (9, n), flatR ((M).map (rowT c))⟩), (0, some ⟨25, none, [.sl 1, .b (.lit (.bool f)), .b (.lit (.int .i64 z))]⟩), (3, some ⟨33, none, [.b (.lit (.int .i64 x.kind)), .b (.lit (.int .i64 x.node)), .b (.it (fF c' 12 x.q)), .b (.lit (.int .i64 x.fst)), .b (.lit (.int .i64 x.nxt)), .b (.lit (.int .i64 x.cost))]⟩), (85, some ⟨4, some (1, 2), [.b (.lit (.bool true)), .b (.lit (.bool false))]⟩)], 100⟩ .normal ⟨[(0, .cv (.one (.ptr 0 0))), (3, .cv (.one (.ptr 3 0))), (86, .cv (.one (.sl 85))), (87, .cv (.one (.b (.lit (.int .i64 2))))), (88, .cv (.one (.b (.lit (.int .i64 1)))))], [(90, some ⟨57, some (9, n + 1), flatR ((M ++ [(⟨x.node, x.fst, x.nxt, true, (tat M i).q, 0⟩ : Nd)]).map (rowT c))⟩), (0, some ⟨25, none, [.sl 90, .b (.lit (.bool f)), .b (.lit (.int .i64 z))]⟩), (3, some ⟨33, none, [.b (.lit (.int .i64 x.kind)), .b (.lit (.int .i64 x.node)), .b (.it (fF c' 12 x.q)), .b (.lit (.int .i64 x.fst)), .b (.lit (.int .i64 x.nxt)), .b (.lit (.int .i64 x.cost))]⟩), (85, some ⟨4, some (1, 2), [.b (.lit (.bool true)), .b (.lit (.bool false))]⟩)], 100⟩ :=
 Rnd.nam [(90, 129)] (show Rnd _ _ _ _ _ _ ⟨[(0, .cv (.one (.ptr 0 0))), (3, .cv (.one (.ptr 3 0))), (86, .cv (.one (.sl 85))), (87, .cv (.one (.b (.lit (.int .i64 2))))), (88, .cv (.one (.b (.lit (.int .i64 1)))))], [(129, some ⟨57, some (9, n + 1), (flatR ((M).map (rowT c))) ++ ([.b (.lit (.int .i64 x.node)), .b (.lit (.int .i64 x.fst)), .b (.lit (.int .i64 x.nxt)), .b (.lit (.bool true)), .b (.it (fF c 12 ((tat M i).q))), .b (.lit (.int .i64 0))])⟩), (0, some ⟨25, none, [.sl 129, .b (.lit (.bool f)), .b (.lit (.int .i64 z))]⟩), (3, some ⟨33, none, [.b (.lit (.int .i64 x.kind)), .b (.lit (.int .i64 x.node)), .b (.it (fF c' 12 x.q)), .b (.lit (.int .i64 x.fst)), .b (.lit (.int .i64 x.nxt)), .b (.lit (.int .i64 x.cost))]⟩), (85, some ⟨4, some (1, 2), [.b (.lit (.bool true)), .b (.lit (.bool false))]⟩)], 135⟩ from rnd_run 1000 [pa, ⟨.ix 0 0 2, ⟨rfl, by omega⟩⟩, ⟨.ix x.node i n, ⟨by omega, by omega⟩⟩, ⟨.part (flatR ((M).map (rowT c))) (i * 9 + 4) 4 [.b (.it (fF c 12 (tat M i).q))], (sub_nd (c := c) (fo := 4) (n := 4) hi rfl)⟩, po (fresh_c (I := I) (c := c) (c' := c) (p := (tat M i).q)), ⟨.ap n 1 104, ⟨by omega, by simp [maxLen]; omega⟩⟩, pa] (by kernel_rfl)) (t := ⟨[(0, .cv (.one (.ptr 0 0))), (3, .cv (.one (.ptr 3 0))), (86, .cv (.one (.sl 85))), (87, .cv (.one (.b (.lit (.int .i64 2))))), (88, .cv (.one (.b (.lit (.int .i64 1)))))], [(90, some ⟨57, some (9, n + 1), flatR ((M ++ [(⟨x.node, x.fst, x.nxt, true, (tat M i).q, 0⟩ : Nd)]).map (rowT c))⟩), (0, some ⟨25, none, [.sl 90, .b (.lit (.bool f)), .b (.lit (.int .i64 z))]⟩), (3, some ⟨33, none, [.b (.lit (.int .i64 x.kind)), .b (.lit (.int .i64 x.node)), .b (.it (fF c' 12 x.q)), .b (.lit (.int .i64 x.fst)), .b (.lit (.int .i64 x.nxt)), .b (.lit (.int .i64 x.cost))]⟩), (85, some ⟨4, some (1, 2), [.b (.lit (.bool true)), .b (.lit (.bool false))]⟩)], 100⟩) ⟨rfl, TVle.refl, rfl, TVle.refl, rfl, TVle.refl, rfl, TVle.refl, rfl, TVle.refl, trivial⟩ ⟨rfl, rfl, rfl, ILe.eq (show (flatR ((M).map (rowT c))) ++ ([.b (.lit (.int .i64 x.node)), .b (.lit (.int .i64 x.fst)), .b (.lit (.int .i64 x.nxt)), .b (.lit (.bool true)), .b (.it (fF c 12 ((tat M i).q))), .b (.lit (.int .i64 0))]) = flatR ((M ++ [(⟨x.node, x.fst, x.nxt, true, (tat M i).q, 0⟩ : Nd)]).map (rowT c)) from by simp [flatR]), rfl, rfl, rfl, ILe.refl, rfl, rfl, rfl, ILe.refl, rfl, rfl, rfl, ILe.refl, trivial⟩
theorem split_round1 (M : List Nd) (f : Bool) (z : Int) (n : Nat) (hn : M.length = n) (hl : n ≤ 2001) (x : Ch) (i : Nat) (hni : x.node = (i : Int)) (hi : i < M.length) : Rnd Tryz.prog I 121 (loopC Tryz.prog 66 0) ⟨[(0, .cv (.one (.ptr 0 0))), (3, .cv (.one (.ptr 3 0))), (86, .cv (.one (.sl 85))), (87, .cv (.one (.b (.lit (.int .i64 2))))), (88, .cv (.one (.b (.lit (.int .i64 1)))))], [(90, some ⟨57, some (9, n), flatR ((M).map (rowT c))⟩), (0, some ⟨25, none, [.sl 90, .b (.lit (.bool f)), .b (.lit (.int .i64 z))]⟩), (3, some ⟨33, none, [.b (.lit (.int .i64 x.kind)), .b (.lit (.int .i64 x.node)), .b (.it (fF c' 12 x.q)), .b (.lit (.int .i64 x.fst)), .b (.lit (.int .i64 x.nxt)), .b (.lit (.int .i64 x.cost))]⟩), (85, some ⟨4, some (1, 2), [.b (.lit (.bool true)), .b (.lit (.bool false))]⟩)], 100⟩ .normal ⟨[(0, .cv (.one (.ptr 0 0))), (3, .cv (.one (.ptr 3 0))), (86, .cv (.one (.sl 85))), (87, .cv (.one (.b (.lit (.int .i64 2))))), (88, .cv (.one (.b (.lit (.int .i64 2)))))], [(90, some ⟨57, some (9, n + 1), flatR ((M ++ [(⟨x.node, x.fst, x.nxt, false, (tat M i).q, 0⟩ : Nd)]).map (rowT c))⟩), (0, some ⟨25, none, [.sl 90, .b (.lit (.bool f)), .b (.lit (.int .i64 z))]⟩), (3, some ⟨33, none, [.b (.lit (.int .i64 x.kind)), .b (.lit (.int .i64 x.node)), .b (.it (fF c' 12 x.q)), .b (.lit (.int .i64 x.fst)), .b (.lit (.int .i64 x.nxt)), .b (.lit (.int .i64 x.cost))]⟩), (85, some ⟨4, some (1, 2), [.b (.lit (.bool true)), .b (.lit (.bool false))]⟩)], 100⟩ :=
 Rnd.nam [(90, 129)] (show Rnd _ _ _ _ _ _ ⟨[(0, .cv (.one (.ptr 0 0))), (3, .cv (.one (.ptr 3 0))), (86, .cv (.one (.sl 85))), (87, .cv (.one (.b (.lit (.int .i64 2))))), (88, .cv (.one (.b (.lit (.int .i64 2)))))], [(129, some ⟨57, some (9, n + 1), (flatR ((M).map (rowT c))) ++ ([.b (.lit (.int .i64 x.node)), .b (.lit (.int .i64 x.fst)), .b (.lit (.int .i64 x.nxt)), .b (.lit (.bool false)), .b (.it (fF c 12 ((tat M i).q))), .b (.lit (.int .i64 0))])⟩), (0, some ⟨25, none, [.sl 129, .b (.lit (.bool f)), .b (.lit (.int .i64 z))]⟩), (3, some ⟨33, none, [.b (.lit (.int .i64 x.kind)), .b (.lit (.int .i64 x.node)), .b (.it (fF c' 12 x.q)), .b (.lit (.int .i64 x.fst)), .b (.lit (.int .i64 x.nxt)), .b (.lit (.int .i64 x.cost))]⟩), (85, some ⟨4, some (1, 2), [.b (.lit (.bool true)), .b (.lit (.bool false))]⟩)], 135⟩ from rnd_run 1000 [pa, ⟨.ix 1 1 2, ⟨rfl, by omega⟩⟩, ⟨.ix x.node i n, ⟨by omega, by omega⟩⟩, ⟨.part (flatR ((M).map (rowT c))) (i * 9 + 4) 4 [.b (.it (fF c 12 (tat M i).q))], (sub_nd (c := c) (fo := 4) (n := 4) hi rfl)⟩, po (fresh_c (I := I) (c := c) (c' := c) (p := (tat M i).q)), ⟨.ap n 1 104, ⟨by omega, by simp [maxLen]; omega⟩⟩, pa] (by kernel_rfl)) (t := ⟨[(0, .cv (.one (.ptr 0 0))), (3, .cv (.one (.ptr 3 0))), (86, .cv (.one (.sl 85))), (87, .cv (.one (.b (.lit (.int .i64 2))))), (88, .cv (.one (.b (.lit (.int .i64 2)))))], [(90, some ⟨57, some (9, n + 1), flatR ((M ++ [(⟨x.node, x.fst, x.nxt, false, (tat M i).q, 0⟩ : Nd)]).map (rowT c))⟩), (0, some ⟨25, none, [.sl 90, .b (.lit (.bool f)), .b (.lit (.int .i64 z))]⟩), (3, some ⟨33, none, [.b (.lit (.int .i64 x.kind)), .b (.lit (.int .i64 x.node)), .b (.it (fF c' 12 x.q)), .b (.lit (.int .i64 x.fst)), .b (.lit (.int .i64 x.nxt)), .b (.lit (.int .i64 x.cost))]⟩), (85, some ⟨4, some (1, 2), [.b (.lit (.bool true)), .b (.lit (.bool false))]⟩)], 100⟩) ⟨rfl, TVle.refl, rfl, TVle.refl, rfl, TVle.refl, rfl, TVle.refl, rfl, TVle.refl, trivial⟩ ⟨rfl, rfl, rfl, ILe.eq (show (flatR ((M).map (rowT c))) ++ ([.b (.lit (.int .i64 x.node)), .b (.lit (.int .i64 x.fst)), .b (.lit (.int .i64 x.nxt)), .b (.lit (.bool false)), .b (.it (fF c 12 ((tat M i).q))), .b (.lit (.int .i64 0))]) = flatR ((M ++ [(⟨x.node, x.fst, x.nxt, false, (tat M i).q, 0⟩ : Nd)]).map (rowT c)) from by simp [flatR]), rfl, rfl, rfl, ILe.refl, rfl, rfl, rfl, ILe.refl, rfl, rfl, rfl, ILe.refl, trivial⟩
end
end Go.Proofs.YtflajoflpkboiaaGreat

/- split (done), Change of the program. -/
namespace Go.Proofs.YtflajoflpkboiaaGreat
open Go Go.RowKit
set_option linter.unusedVariables false
set_option linter.unusedSimpArgs false

section
variable {I : WInv} {c c' : Bool}

def spst (c c' : Bool) (L : List Nd) (f : Bool) (z : Int) (n : Nat) (x : Ch) (i : Nat) : Nat → Go.Proofs.YtflajoflpkboiaaGreat.St
 | 0 => ⟨[(0, .cv (.one (.ptr 0 0))), (3, .cv (.one (.ptr 3 0))), (86, .cv (.one (.sl 85))), (87, .cv (.one (.b (.lit (.int .i64 2))))), (88, .cv (.one (.b (.lit (.int .i64 0)))))], [(1, some ⟨57, some (9, n), flatR (((marked L i)).map (rowT c))⟩), (0, some ⟨25, none, [.sl 1, .b (.lit (.bool f)), .b (.lit (.int .i64 z))]⟩), (3, some ⟨33, none, [.b (.lit (.int .i64 x.kind)), .b (.lit (.int .i64 x.node)), .b (.it (fF c' 12 x.q)), .b (.lit (.int .i64 x.fst)), .b (.lit (.int .i64 x.nxt)), .b (.lit (.int .i64 x.cost))]⟩), (85, some ⟨4, some (1, 2), [.b (.lit (.bool true)), .b (.lit (.bool false))]⟩)], 100⟩
 | 1 => ⟨[(0, .cv (.one (.ptr 0 0))), (3, .cv (.one (.ptr 3 0))), (86, .cv (.one (.sl 85))), (87, .cv (.one (.b (.lit (.int .i64 2))))), (88, .cv (.one (.b (.lit (.int .i64 1)))))], [(90, some ⟨57, some (9, n + 1), flatR ((((marked L i) ++ [(⟨x.node, x.fst, x.nxt, true, (tat (marked L i) i).q, 0⟩ : Nd)])).map (rowT c))⟩), (0, some ⟨25, none, [.sl 90, .b (.lit (.bool f)), .b (.lit (.int .i64 z))]⟩), (3, some ⟨33, none, [.b (.lit (.int .i64 x.kind)), .b (.lit (.int .i64 x.node)), .b (.it (fF c' 12 x.q)), .b (.lit (.int .i64 x.fst)), .b (.lit (.int .i64 x.nxt)), .b (.lit (.int .i64 x.cost))]⟩), (85, some ⟨4, some (1, 2), [.b (.lit (.bool true)), .b (.lit (.bool false))]⟩)], 100⟩
 | _ => ⟨[(0, .cv (.one (.ptr 0 0))), (3, .cv (.one (.ptr 3 0))), (86, .cv (.one (.sl 85))), (87, .cv (.one (.b (.lit (.int .i64 2))))), (88, .cv (.one (.b (.lit (.int .i64 2)))))], [(90, some ⟨57, some (9, n + 1 + 1), flatR (((((marked L i) ++ [(⟨x.node, x.fst, x.nxt, true, (tat (marked L i) i).q, 0⟩ : Nd)]) ++ [(⟨x.node, x.fst, x.nxt, false, (tat ((marked L i) ++ [(⟨x.node, x.fst, x.nxt, true, (tat (marked L i) i).q, 0⟩ : Nd)]) i).q, 0⟩ : Nd)])).map (rowT c))⟩), (0, some ⟨25, none, [.sl 90, .b (.lit (.bool f)), .b (.lit (.int .i64 z))]⟩), (3, some ⟨33, none, [.b (.lit (.int .i64 x.kind)), .b (.lit (.int .i64 x.node)), .b (.it (fF c' 12 x.q)), .b (.lit (.int .i64 x.fst)), .b (.lit (.int .i64 x.nxt)), .b (.lit (.int .i64 x.cost))]⟩), (85, some ⟨4, some (1, 2), [.b (.lit (.bool true)), .b (.lit (.bool false))]⟩)], 100⟩
theorem marked_len (L : List Nd) (i : Nat) : (marked L i).length = L.length := List.length_set
theorem marked_q {L : List Nd} {i : Nat} (h : i < L.length) (j : Nat) : (tat (marked L i) j).q = (tat L j).q := by
 unfold marked
 rw [tat_set h]
 split
 ·rename_i e; rw [e]
 ·rfl
theorem spL_eq {L : List Nd} {x : Ch} {i : Nat} (ht : x.node.toNat = i) (hi : i < L.length) : (((marked L i) ++ [(⟨x.node, x.fst, x.nxt, true, (tat (marked L i) i).q, 0⟩ : Nd)]) ++ [(⟨x.node, x.fst, x.nxt, false, (tat ((marked L i) ++ [(⟨x.node, x.fst, x.nxt, true, (tat (marked L i) i).q, 0⟩ : Nd)]) i).q, 0⟩ : Nd)]) = spL L x := by
 unfold spL kid
 rw [ht, tat_left (by rw [marked_len]; exact hi), marked_q hi, List.append_assoc]; rfl
theorem split_ok (L : List Nd) (f : Bool) (z : Int) (n : Nat) (hn : L.length = n) (hl : n ≤ 2000) (hD : Dn L (L.length - 1)) (x : Ch) (h : spE L x = 0) : SpM Tryz.prog I 66 [(0, some (tbx f z 1)), (1, some (nbx c L n))] [.one (.ptr 0 0), chT c' x] [(0, some (tbx f z 2)), (2, some (nbx c (spL L x) (n + 2)))] (li 0) := by
 unfold spE at h
 by_cases h0 : x.node < 0 ∨ (L.length : Int) ≤ x.node ∨ x.fst < 0 ∨ x.nxt < 0 ∨ x.fst = x.nxt
 ·rw [if_pos h0] at h; omega
 ·rw [if_neg h0] at h
  obtain ⟨i, hni⟩ : ∃ i : Nat, x.node = (i : Int) := ⟨x.node.toNat, by omega⟩
  have hi : i < L.length := by omega
  have ht : x.node.toNat = i := by omega
  rw [← spL_eq ht hi]
  rw [ht] at h
  by_cases h6 : (tat L i).st = 0
  ·rw [if_neg (by simp [h6])] at h
   have hpa := borrow_path (I := I) (c := c) f z n hn i hD hi (by omega)
   have hde := borrow_decided (I := I) (c := c) f z n hn i x.fst x.nxt hD hi
   rw [← hni] at hpa hde
   generalize (pathD L i).length = k at *
   by_cases h7 : 2000 < L.length + 2 ∨ 32 ≤ k
   ·rw [if_pos h7] at h; omega
   ·rw [if_neg h7] at h
    cases h9 : decB L i x.fst x.nxt with
    | true => rw [h9, if_pos rfl] at h; omega
    | false =>
     rw [h9] at hde
     have lo : LoopTr Tryz.prog I 121 (loopC Tryz.prog 66 0) (spst c c' L f z n x i 0) (.exit 1) ⟨[], [(90, some ⟨57, some (9, n + 1 + 1), flatR (((((marked L i) ++ [(⟨x.node, x.fst, x.nxt, true, (tat (marked L i) i).q, 0⟩ : Nd)]) ++ [(⟨x.node, x.fst, x.nxt, false, (tat ((marked L i) ++ [(⟨x.node, x.fst, x.nxt, true, (tat (marked L i) i).q, 0⟩ : Nd)]) i).q, 0⟩ : Nd)])).map (rowT c))⟩), (0, some ⟨25, none, [.sl 90, .b (.lit (.bool f)), .b (.lit (.int .i64 z))]⟩)], 100⟩ := loop_up (by simp) (spst c c' L f z n x i) 2 (fun j hj => by
      have hm := marked_len L i
      obtain rfl | rfl : j = 0 ∨ j = 1 := by omega
      ·exact split_round0 (marked L i) f z n (by omega) hl x i hni (by omega)
      ·exact split_round1 _ f z (n + 1) (by rw [List.length_append, hm, hn]; rfl) (by omega) x i hni (by rw [List.length_append]; omega)) (by
      exact Rnd.nam [] (show Rnd _ _ _ _ _ _ ⟨[], [(90, some ⟨57, some (9, n + 1 + 1), flatR (((((marked L i) ++ [(⟨x.node, x.fst, x.nxt, true, (tat (marked L i) i).q, 0⟩ : Nd)]) ++ [(⟨x.node, x.fst, x.nxt, false, (tat ((marked L i) ++ [(⟨x.node, x.fst, x.nxt, true, (tat (marked L i) i).q, 0⟩ : Nd)]) i).q, 0⟩ : Nd)])).map (rowT c))⟩), (0, some ⟨25, none, [.sl 90, .b (.lit (.bool f)), .b (.lit (.int .i64 z))]⟩)], 101⟩ from rnd_run 1000 [pa] (by kernel_rfl)) (t := ⟨[], [(90, some ⟨57, some (9, n + 1 + 1), flatR (((((marked L i) ++ [(⟨x.node, x.fst, x.nxt, true, (tat (marked L i) i).q, 0⟩ : Nd)]) ++ [(⟨x.node, x.fst, x.nxt, false, (tat ((marked L i) ++ [(⟨x.node, x.fst, x.nxt, true, (tat (marked L i) i).q, 0⟩ : Nd)]) i).q, 0⟩ : Nd)])).map (rowT c))⟩), (0, some ⟨25, none, [.sl 90, .b (.lit (.bool f)), .b (.lit (.int .i64 z))]⟩)], 100⟩) trivial ⟨rfl, rfl, rfl, ILe.refl, rfl, rfl, rfl, ILe.refl, trivial⟩)
     exact spm_run (nt := 121) 1000 [pk (bF_lss 3 x.node 0), pk (bF_geq 3 x.node (n : Nat)), pk (bF_lss 3 x.fst 0), pk (bF_lss 3 x.nxt 0), pk (bF_eql 3 x.fst x.nxt), ⟨.ix x.node i n, ⟨by omega, by omega⟩⟩, ⟨.part (flatR ((L).map (rowT c))) (i * 9 + 8) 1 [.b (.lit (.int .i64 ((tat L i).st)))], (sub_nd (c := c) (fo := 8) (n := 1) hi rfl)⟩, pk (b_neq 3 ((tat L i).st) 0 false (decide_eq_true h6)), pk (b_add 3 (n : Nat) 2 ⟨by omega, by omega⟩), pk (bF_gtr 3 ((n : Nat) + 2) 2000), pom [1] (hpa), pk (ln_len 62 55 3 k (by kernel_rfl)), pk (bF_geq 3 (k : Int) 32), pom [1] (hde), ⟨.ix x.node i n, ⟨by omega, by omega⟩⟩, ⟨.upd (flatR ((L).map (rowT c))) (i * 9 + 8) [.b (.lit (.int .i64 1))] (flatR (((L).set i ⟨(tat L i).par, (tat L i).fst, (tat L i).nxt, (tat L i).tog, (tat L i).q, 1⟩).map (rowT c))), (upd_nd (c := c) (fo := 8) hi ⟨(tat L i).par, (tat L i).fst, (tat L i).nxt, (tat L i).tog, (tat L i).q, 1⟩ rfl)⟩, pl (lo), pm ((show Leads I _ ⟨[], [(90, some ⟨57, some (9, n + 1 + 1), flatR (((((marked L i) ++ [(⟨x.node, x.fst, x.nxt, true, (tat (marked L i) i).q, 0⟩ : Nd)]) ++ [(⟨x.node, x.fst, x.nxt, false, (tat ((marked L i) ++ [(⟨x.node, x.fst, x.nxt, true, (tat (marked L i) i).q, 0⟩ : Nd)]) i).q, 0⟩ : Nd)])).map (rowT c))⟩), (0, some ⟨25, none, [.sl 90, .b (.lit (.bool f)), .b (.lit (.int .i64 z))]⟩)], 100⟩ ⟨[], [(2, some ⟨57, some (9, n + 1 + 1), flatR (((((marked L i) ++ [(⟨x.node, x.fst, x.nxt, true, (tat (marked L i) i).q, 0⟩ : Nd)]) ++ [(⟨x.node, x.fst, x.nxt, false, (tat ((marked L i) ++ [(⟨x.node, x.fst, x.nxt, true, (tat (marked L i) i).q, 0⟩ : Nd)]) i).q, 0⟩ : Nd)])).map (rowT c))⟩), (0, some ⟨25, none, [.sl 2, .b (.lit (.bool f)), .b (.lit (.int .i64 z))]⟩)], 100⟩ from nam_leads [(2, 90)] trivial ⟨rfl, rfl, rfl, ILe.refl, rfl, rfl, rfl, ILe.refl, trivial⟩))] (by kernel_rfl)
  ·rw [if_pos h6] at h; omega
end
end Go.Proofs.YtflajoflpkboiaaGreat

/- Change of the program. -/
namespace Go.Proofs.YtflajoflpkboiaaGreat
open Go Go.RowKit
set_option linter.unusedVariables false
set_option linter.unusedSimpArgs false

/-- a node, closed if it is settled -/
def clN (f : Bool) (z : Int) (x : Nd) : Nd := if x.st = 0 ∧ setB f z x.q = true then ⟨x.par, x.fst, x.nxt, x.tog, x.q, 2⟩ else x
def clL (L : List Nd) (f : Bool) (z : Int) : List Nd := L.map (clN f z)
/-- the first i nodes closed -/
def clP (L : List Nd) (f : Bool) (z : Int) : Nat → List Nd
 | 0 => L
 | i + 1 => if (tat (clP L f z i) i).st = 0 ∧ setB f z (tat (clP L f z i) i).q = true then (clP L f z i).set i ⟨(tat (clP L f z i) i).par, (tat (clP L f z i) i).fst, (tat (clP L f z i) i).nxt, (tat (clP L f z i) i).tog, (tat (clP L f z i) i).q, 2⟩ else clP L f z i
theorem clP_len (L : List Nd) (f : Bool) (z : Int) : ∀ i, (clP L f z i).length = L.length
 | 0 => rfl
 | i + 1 => by
  rw [clP]
  split
  ·rw [List.length_set, clP_len L f z i]
  ·exact clP_len L f z i
theorem clP_get (L : List Nd) (f : Bool) (z : Int) : ∀ i, i ≤ L.length → ∀ j, (clP L f z i)[j]? = if j < i then (L[j]?).map (clN f z) else L[j]?
 | 0, _, j => by rw [if_neg (by omega)]; rfl
 | i + 1, hi, j => by
  have ih := clP_get L f z i (by omega)
  have hl := clP_len L f z i
  have e : tat (clP L f z i) i = tat L i := by unfold tat; rw [List.getD_eq_getElem?_getD, List.getD_eq_getElem?_getD, ih, if_neg (by omega)]
  have hg : L[i]? = some (tat L i) := tat_some (by omega)
  rw [clP, e]
  by_cases hc : (tat L i).st = 0 ∧ setB f z (tat L i).q = true
  ·rw [if_pos hc, List.getElem?_set]
   by_cases hij : i = j
   ·subst hij
    rw [if_pos rfl, if_pos (by omega), if_pos (by omega), hg]
    show some _ = some (clN f z (tat L i))
    unfold clN
    rw [if_pos hc]
   ·rw [if_neg hij, ih]
    by_cases h : j < i
    ·rw [if_pos h, if_pos (by omega)]
    ·rw [if_neg h, if_neg (by omega)]
  ·rw [if_neg hc, ih]
   by_cases h : j < i
   ·rw [if_pos h, if_pos (by omega)]
   ·rw [if_neg h]
    by_cases hij : j = i
    ·subst hij
     rw [if_pos (by omega), hg]
     show some _ = some (clN f z (tat L j))
     unfold clN
     rw [if_neg hc]
    ·rw [if_neg (by omega)]
theorem clP_end (L : List Nd) (f : Bool) (z : Int) : clP L f z L.length = clL L f z := by
 apply List.ext_getElem?
 intro j
 unfold clL
 rw [clP_get L f z _ (Nat.le_refl _), List.getElem?_map]
 by_cases h : j < L.length
 ·rw [if_pos h]
 ·rw [if_neg h, List.getElem?_eq_none (by omega)]; rfl
theorem clP_n {L : List Nd} {n : Nat} (f : Bool) (z : Int) (hn : L.length = n) : clP L f z n = clL L f z := by rw [← hn, clP_end]
section
variable {I : WInv} {c c' : Bool}
theorem borrow_settled {L : List Nd} (f : Bool) (z : Int) (n : Nat) (hn : L.length = n) (y : Nd) (r : Bool) (hr : setB f z y.q = r) : SpM Tryz.prog I 54 [(0, some (nbx c L n))] [.ag [.sl 0, .b (.lit (.bool f)), .b (.lit (.int .i64 z))], ndT c y] [(0, some (nbx c L n))] (lb r) :=
 borrow (args := [.ag [.sl 0, .b (.lit (.bool f)), .b (.lit (.int .i64 z))], ndT c y]) (by rw [← hr]; exact settled_sp L f z c y) (by rw [List.length_map]; exact hn.symm) rowT_w rfl lit_free rfl

def chst (k : Nat) (c : Bool) (M : List Nd) (n : Nat) (f : Bool) (z : Int) (i : Int) : Go.Proofs.YtflajoflpkboiaaGreat.St := ⟨[(0, .cv (.one (.ptr 0 0))), (31, .cv (.one (.sl k))), (32, .cv (.one (.b (.lit (.int .i64 (n : Int)))))), (33, .cv (.one (.b (.lit (.int .i64 i)))))], [(k, some ⟨57, some (9, n), flatR ((M).map (rowT c))⟩), (0, some ⟨25, none, [.sl k, .b (.lit (.bool f)), .b (.lit (.int .i64 z))]⟩)], 50⟩
def chend (k : Nat) (c : Bool) (M : List Nd) (n : Nat) (f : Bool) (z : Int) : Go.Proofs.YtflajoflpkboiaaGreat.St := ⟨[], [(k, some ⟨57, some (9, n), flatR ((M).map (rowT c))⟩), (0, some ⟨25, none, [.sl k, .b (.lit (.bool f)), .b (.lit (.int .i64 z))]⟩)], 50⟩
theorem change_round1 (M : List Nd) (f : Bool) (z : Int) (n : Nat) (hn : M.length = n) (hl : n ≤ 2002) (i : Nat) (hi : i < M.length) : Rnd Tryz.prog I 56 (loopC Tryz.prog 38 0) (chst 1 c M n f z (i : Int)) .normal (chst 1 c (if (tat M i).st = 0 ∧ setB f z (tat M i).q = true then M.set i ⟨(tat M i).par, (tat M i).fst, (tat M i).nxt, (tat M i).tog, (tat M i).q, 2⟩ else M) n f z ((i + 1 : Nat) : Int)) := by
 by_cases h1 : (tat M i).st = 0
 ·cases h2 : setB f z (tat M i).q with
  | true =>
   have hset := borrow_settled (I := I) (c := c) f z n hn (tat M i) true h2
   rw [if_pos ⟨h1, rfl⟩]
   exact Rnd.nam [] (show Rnd _ _ _ _ _ _ ⟨[(0, .cv (.one (.ptr 0 0))), (31, .cv (.one (.sl 1))), (32, .cv (.one (.b (.lit (.int .i64 (n : Int)))))), (33, .cv (.one (.b (.lit (.int .i64 ((i + 1 : Nat) : Int))))))], [(1, some ⟨57, some (9, n), flatR (((M).set i ⟨(tat M i).par, (tat M i).fst, (tat M i).nxt, (tat M i).tog, (tat M i).q, 2⟩).map (rowT c))⟩), (0, some ⟨25, none, [.sl 1, .b (.lit (.bool f)), .b (.lit (.int .i64 z))]⟩)], 77⟩ from rnd_run 1000 [pk (bT_lss 3 (i : Int) (n : Int)), ⟨.ix (i : Int) i n, ⟨by omega, by omega⟩⟩, ⟨.part (flatR ((M).map (rowT c))) (i * 9) 9 [.b (.lit (.int .i64 ((tat M i).par))), .b (.lit (.int .i64 ((tat M i).fst))), .b (.lit (.int .i64 ((tat M i).nxt))), .b (.lit (.bool ((tat M i).tog))), .b (.it (fF c 12 (tat M i).q)), .b (.lit (.int .i64 ((tat M i).st)))], (sub_nd (c := c) (fo := 0) (n := 9) hi rfl)⟩, pk (b_eql 3 ((tat M i).st) 0 true (decide_eq_true h1)), pom [1] (hset), ⟨.ix (i : Int) i n, ⟨by omega, by omega⟩⟩, ⟨.upd (flatR ((M).map (rowT c))) (i * 9 + 8) [.b (.lit (.int .i64 2))] (flatR (((M).set i ⟨(tat M i).par, (tat M i).fst, (tat M i).nxt, (tat M i).tog, (tat M i).q, 2⟩).map (rowT c))), (upd_nd (c := c) (fo := 8) hi ⟨(tat M i).par, (tat M i).fst, (tat M i).nxt, (tat M i).tog, (tat M i).q, 2⟩ rfl)⟩, pk (b_add 3 (i : Int) 1 ⟨by omega, by omega⟩)] (by kernel_rfl)) (t := ⟨[(0, .cv (.one (.ptr 0 0))), (31, .cv (.one (.sl 1))), (32, .cv (.one (.b (.lit (.int .i64 (n : Int)))))), (33, .cv (.one (.b (.lit (.int .i64 ((i + 1 : Nat) : Int))))))], [(1, some ⟨57, some (9, n), flatR (((M).set i ⟨(tat M i).par, (tat M i).fst, (tat M i).nxt, (tat M i).tog, (tat M i).q, 2⟩).map (rowT c))⟩), (0, some ⟨25, none, [.sl 1, .b (.lit (.bool f)), .b (.lit (.int .i64 z))]⟩)], 50⟩) ⟨rfl, TVle.refl, rfl, TVle.refl, rfl, TVle.refl, rfl, TVle.refl, trivial⟩ ⟨rfl, rfl, rfl, ILe.refl, rfl, rfl, rfl, ILe.refl, trivial⟩
  | false =>
   have hset := borrow_settled (I := I) (c := c) f z n hn (tat M i) false h2
   rw [if_neg (fun h => by cases h.2)]
   exact Rnd.nam [] (show Rnd _ _ _ _ _ _ ⟨[(0, .cv (.one (.ptr 0 0))), (31, .cv (.one (.sl 1))), (32, .cv (.one (.b (.lit (.int .i64 (n : Int)))))), (33, .cv (.one (.b (.lit (.int .i64 ((i + 1 : Nat) : Int))))))], [(1, some ⟨57, some (9, n), flatR ((M).map (rowT c))⟩), (0, some ⟨25, none, [.sl 1, .b (.lit (.bool f)), .b (.lit (.int .i64 z))]⟩)], 69⟩ from rnd_run 1000 [pk (bT_lss 3 (i : Int) (n : Int)), ⟨.ix (i : Int) i n, ⟨by omega, by omega⟩⟩, ⟨.part (flatR ((M).map (rowT c))) (i * 9) 9 [.b (.lit (.int .i64 ((tat M i).par))), .b (.lit (.int .i64 ((tat M i).fst))), .b (.lit (.int .i64 ((tat M i).nxt))), .b (.lit (.bool ((tat M i).tog))), .b (.it (fF c 12 (tat M i).q)), .b (.lit (.int .i64 ((tat M i).st)))], (sub_nd (c := c) (fo := 0) (n := 9) hi rfl)⟩, pk (b_eql 3 ((tat M i).st) 0 true (decide_eq_true h1)), pom [1] (hset), pk (b_add 3 (i : Int) 1 ⟨by omega, by omega⟩)] (by kernel_rfl)) (t := ⟨[(0, .cv (.one (.ptr 0 0))), (31, .cv (.one (.sl 1))), (32, .cv (.one (.b (.lit (.int .i64 (n : Int)))))), (33, .cv (.one (.b (.lit (.int .i64 ((i + 1 : Nat) : Int))))))], [(1, some ⟨57, some (9, n), flatR ((M).map (rowT c))⟩), (0, some ⟨25, none, [.sl 1, .b (.lit (.bool f)), .b (.lit (.int .i64 z))]⟩)], 50⟩) ⟨rfl, TVle.refl, rfl, TVle.refl, rfl, TVle.refl, rfl, TVle.refl, trivial⟩ ⟨rfl, rfl, rfl, ILe.refl, rfl, rfl, rfl, ILe.refl, trivial⟩
 ·rw [if_neg (fun h => h1 h.1)]
  exact Rnd.nam [] (show Rnd _ _ _ _ _ _ ⟨[(0, .cv (.one (.ptr 0 0))), (31, .cv (.one (.sl 1))), (32, .cv (.one (.b (.lit (.int .i64 (n : Int)))))), (33, .cv (.one (.b (.lit (.int .i64 ((i + 1 : Nat) : Int))))))], [(1, some ⟨57, some (9, n), flatR ((M).map (rowT c))⟩), (0, some ⟨25, none, [.sl 1, .b (.lit (.bool f)), .b (.lit (.int .i64 z))]⟩)], 69⟩ from rnd_run 1000 [pk (bT_lss 3 (i : Int) (n : Int)), ⟨.ix (i : Int) i n, ⟨by omega, by omega⟩⟩, ⟨.part (flatR ((M).map (rowT c))) (i * 9) 9 [.b (.lit (.int .i64 ((tat M i).par))), .b (.lit (.int .i64 ((tat M i).fst))), .b (.lit (.int .i64 ((tat M i).nxt))), .b (.lit (.bool ((tat M i).tog))), .b (.it (fF c 12 (tat M i).q)), .b (.lit (.int .i64 ((tat M i).st)))], (sub_nd (c := c) (fo := 0) (n := 9) hi rfl)⟩, pk (b_eql 3 ((tat M i).st) 0 false (decide_eq_false h1)), pk (b_add 3 (i : Int) 1 ⟨by omega, by omega⟩)] (by kernel_rfl)) (t := ⟨[(0, .cv (.one (.ptr 0 0))), (31, .cv (.one (.sl 1))), (32, .cv (.one (.b (.lit (.int .i64 (n : Int)))))), (33, .cv (.one (.b (.lit (.int .i64 ((i + 1 : Nat) : Int))))))], [(1, some ⟨57, some (9, n), flatR ((M).map (rowT c))⟩), (0, some ⟨25, none, [.sl 1, .b (.lit (.bool f)), .b (.lit (.int .i64 z))]⟩)], 50⟩) ⟨rfl, TVle.refl, rfl, TVle.refl, rfl, TVle.refl, rfl, TVle.refl, trivial⟩ ⟨rfl, rfl, rfl, ILe.refl, rfl, rfl, rfl, ILe.refl, trivial⟩
theorem change_loop1 (L : List Nd) (f : Bool) (z : Int) (n : Nat) (hn : L.length = n) (hl : n ≤ 2002) : LoopTr Tryz.prog I 56 (loopC Tryz.prog 38 0) (chst 1 c L n f z ((0 : Nat) : Int)) (.exit 1) (chend 1 c (clL L f z) n f z) :=
 loop_up (by simp) (fun i => chst 1 c (clP L f z i) n f z (i : Int)) n (fun i hi => by
  have hm := clP_len L f z i
  have := change_round1 (I := I) (c := c) (clP L f z i) f z n (by omega) hl i (by omega)
  exact this) (by
  rw [clP_n f z hn]
  generalize clL L f z = M
  exact Rnd.nam [] (show Rnd _ _ _ _ _ _ ⟨[], [(1, some ⟨57, some (9, n), flatR ((M).map (rowT c))⟩), (0, some ⟨25, none, [.sl 1, .b (.lit (.bool f)), .b (.lit (.int .i64 z))]⟩)], 51⟩ from rnd_run 1000 [pk (bF_lss 3 (n : Int) (n : Int))] (by kernel_rfl)) (t := ⟨[], [(1, some ⟨57, some (9, n), flatR ((M).map (rowT c))⟩), (0, some ⟨25, none, [.sl 1, .b (.lit (.bool f)), .b (.lit (.int .i64 z))]⟩)], 50⟩) trivial ⟨rfl, rfl, rfl, ILe.refl, rfl, rfl, rfl, ILe.refl, trivial⟩)
end
end Go.Proofs.YtflajoflpkboiaaGreat

/- Change of the program, all of it. -/
namespace Go.Proofs.YtflajoflpkboiaaGreat
open Go Go.RowKit
set_option linter.unusedVariables false
set_option linter.unusedSimpArgs false

section
variable {I : WInv} {c c' : Bool}

theorem change_round14 (M : List Nd) (f : Bool) (z : Int) (n : Nat) (hn : M.length = n) (hl : n ≤ 2002) (i : Nat) (hi : i < M.length) : Rnd Tryz.prog I 56 (loopC Tryz.prog 38 0) (chst 14 c M n f z (i : Int)) .normal (chst 14 c (if (tat M i).st = 0 ∧ setB f z (tat M i).q = true then M.set i ⟨(tat M i).par, (tat M i).fst, (tat M i).nxt, (tat M i).tog, (tat M i).q, 2⟩ else M) n f z ((i + 1 : Nat) : Int)) := by
 by_cases h1 : (tat M i).st = 0
 ·cases h2 : setB f z (tat M i).q with
  | true =>
   have hset := borrow_settled (I := I) (c := c) f z n hn (tat M i) true h2
   rw [if_pos ⟨h1, rfl⟩]
   exact Rnd.nam [] (show Rnd _ _ _ _ _ _ ⟨[(0, .cv (.one (.ptr 0 0))), (31, .cv (.one (.sl 14))), (32, .cv (.one (.b (.lit (.int .i64 (n : Int)))))), (33, .cv (.one (.b (.lit (.int .i64 ((i + 1 : Nat) : Int))))))], [(14, some ⟨57, some (9, n), flatR (((M).set i ⟨(tat M i).par, (tat M i).fst, (tat M i).nxt, (tat M i).tog, (tat M i).q, 2⟩).map (rowT c))⟩), (0, some ⟨25, none, [.sl 14, .b (.lit (.bool f)), .b (.lit (.int .i64 z))]⟩)], 77⟩ from rnd_run 1000 [pk (bT_lss 3 (i : Int) (n : Int)), ⟨.ix (i : Int) i n, ⟨by omega, by omega⟩⟩, ⟨.part (flatR ((M).map (rowT c))) (i * 9) 9 [.b (.lit (.int .i64 ((tat M i).par))), .b (.lit (.int .i64 ((tat M i).fst))), .b (.lit (.int .i64 ((tat M i).nxt))), .b (.lit (.bool ((tat M i).tog))), .b (.it (fF c 12 (tat M i).q)), .b (.lit (.int .i64 ((tat M i).st)))], (sub_nd (c := c) (fo := 0) (n := 9) hi rfl)⟩, pk (b_eql 3 ((tat M i).st) 0 true (decide_eq_true h1)), pom [14] (hset), ⟨.ix (i : Int) i n, ⟨by omega, by omega⟩⟩, ⟨.upd (flatR ((M).map (rowT c))) (i * 9 + 8) [.b (.lit (.int .i64 2))] (flatR (((M).set i ⟨(tat M i).par, (tat M i).fst, (tat M i).nxt, (tat M i).tog, (tat M i).q, 2⟩).map (rowT c))), (upd_nd (c := c) (fo := 8) hi ⟨(tat M i).par, (tat M i).fst, (tat M i).nxt, (tat M i).tog, (tat M i).q, 2⟩ rfl)⟩, pk (b_add 3 (i : Int) 1 ⟨by omega, by omega⟩)] (by kernel_rfl)) (t := ⟨[(0, .cv (.one (.ptr 0 0))), (31, .cv (.one (.sl 14))), (32, .cv (.one (.b (.lit (.int .i64 (n : Int)))))), (33, .cv (.one (.b (.lit (.int .i64 ((i + 1 : Nat) : Int))))))], [(14, some ⟨57, some (9, n), flatR (((M).set i ⟨(tat M i).par, (tat M i).fst, (tat M i).nxt, (tat M i).tog, (tat M i).q, 2⟩).map (rowT c))⟩), (0, some ⟨25, none, [.sl 14, .b (.lit (.bool f)), .b (.lit (.int .i64 z))]⟩)], 50⟩) ⟨rfl, TVle.refl, rfl, TVle.refl, rfl, TVle.refl, rfl, TVle.refl, trivial⟩ ⟨rfl, rfl, rfl, ILe.refl, rfl, rfl, rfl, ILe.refl, trivial⟩
  | false =>
   have hset := borrow_settled (I := I) (c := c) f z n hn (tat M i) false h2
   rw [if_neg (fun h => by cases h.2)]
   exact Rnd.nam [] (show Rnd _ _ _ _ _ _ ⟨[(0, .cv (.one (.ptr 0 0))), (31, .cv (.one (.sl 14))), (32, .cv (.one (.b (.lit (.int .i64 (n : Int)))))), (33, .cv (.one (.b (.lit (.int .i64 ((i + 1 : Nat) : Int))))))], [(14, some ⟨57, some (9, n), flatR ((M).map (rowT c))⟩), (0, some ⟨25, none, [.sl 14, .b (.lit (.bool f)), .b (.lit (.int .i64 z))]⟩)], 69⟩ from rnd_run 1000 [pk (bT_lss 3 (i : Int) (n : Int)), ⟨.ix (i : Int) i n, ⟨by omega, by omega⟩⟩, ⟨.part (flatR ((M).map (rowT c))) (i * 9) 9 [.b (.lit (.int .i64 ((tat M i).par))), .b (.lit (.int .i64 ((tat M i).fst))), .b (.lit (.int .i64 ((tat M i).nxt))), .b (.lit (.bool ((tat M i).tog))), .b (.it (fF c 12 (tat M i).q)), .b (.lit (.int .i64 ((tat M i).st)))], (sub_nd (c := c) (fo := 0) (n := 9) hi rfl)⟩, pk (b_eql 3 ((tat M i).st) 0 true (decide_eq_true h1)), pom [14] (hset), pk (b_add 3 (i : Int) 1 ⟨by omega, by omega⟩)] (by kernel_rfl)) (t := ⟨[(0, .cv (.one (.ptr 0 0))), (31, .cv (.one (.sl 14))), (32, .cv (.one (.b (.lit (.int .i64 (n : Int)))))), (33, .cv (.one (.b (.lit (.int .i64 ((i + 1 : Nat) : Int))))))], [(14, some ⟨57, some (9, n), flatR ((M).map (rowT c))⟩), (0, some ⟨25, none, [.sl 14, .b (.lit (.bool f)), .b (.lit (.int .i64 z))]⟩)], 50⟩) ⟨rfl, TVle.refl, rfl, TVle.refl, rfl, TVle.refl, rfl, TVle.refl, trivial⟩ ⟨rfl, rfl, rfl, ILe.refl, rfl, rfl, rfl, ILe.refl, trivial⟩
 ·rw [if_neg (fun h => h1 h.1)]
  exact Rnd.nam [] (show Rnd _ _ _ _ _ _ ⟨[(0, .cv (.one (.ptr 0 0))), (31, .cv (.one (.sl 14))), (32, .cv (.one (.b (.lit (.int .i64 (n : Int)))))), (33, .cv (.one (.b (.lit (.int .i64 ((i + 1 : Nat) : Int))))))], [(14, some ⟨57, some (9, n), flatR ((M).map (rowT c))⟩), (0, some ⟨25, none, [.sl 14, .b (.lit (.bool f)), .b (.lit (.int .i64 z))]⟩)], 69⟩ from rnd_run 1000 [pk (bT_lss 3 (i : Int) (n : Int)), ⟨.ix (i : Int) i n, ⟨by omega, by omega⟩⟩, ⟨.part (flatR ((M).map (rowT c))) (i * 9) 9 [.b (.lit (.int .i64 ((tat M i).par))), .b (.lit (.int .i64 ((tat M i).fst))), .b (.lit (.int .i64 ((tat M i).nxt))), .b (.lit (.bool ((tat M i).tog))), .b (.it (fF c 12 (tat M i).q)), .b (.lit (.int .i64 ((tat M i).st)))], (sub_nd (c := c) (fo := 0) (n := 9) hi rfl)⟩, pk (b_eql 3 ((tat M i).st) 0 false (decide_eq_false h1)), pk (b_add 3 (i : Int) 1 ⟨by omega, by omega⟩)] (by kernel_rfl)) (t := ⟨[(0, .cv (.one (.ptr 0 0))), (31, .cv (.one (.sl 14))), (32, .cv (.one (.b (.lit (.int .i64 (n : Int)))))), (33, .cv (.one (.b (.lit (.int .i64 ((i + 1 : Nat) : Int))))))], [(14, some ⟨57, some (9, n), flatR ((M).map (rowT c))⟩), (0, some ⟨25, none, [.sl 14, .b (.lit (.bool f)), .b (.lit (.int .i64 z))]⟩)], 50⟩) ⟨rfl, TVle.refl, rfl, TVle.refl, rfl, TVle.refl, rfl, TVle.refl, trivial⟩ ⟨rfl, rfl, rfl, ILe.refl, rfl, rfl, rfl, ILe.refl, trivial⟩
theorem change_loop14 (L : List Nd) (f : Bool) (z : Int) (n : Nat) (hn : L.length = n) (hl : n ≤ 2002) : LoopTr Tryz.prog I 56 (loopC Tryz.prog 38 0) (chst 14 c L n f z ((0 : Nat) : Int)) (.exit 1) (chend 14 c (clL L f z) n f z) :=
 loop_up (by simp) (fun i => chst 14 c (clP L f z i) n f z (i : Int)) n (fun i hi => by
  have hm := clP_len L f z i
  have := change_round14 (I := I) (c := c) (clP L f z i) f z n (by omega) hl i (by omega)
  exact this) (by
  rw [clP_n f z hn]
  generalize clL L f z = M
  exact Rnd.nam [] (show Rnd _ _ _ _ _ _ ⟨[], [(14, some ⟨57, some (9, n), flatR ((M).map (rowT c))⟩), (0, some ⟨25, none, [.sl 14, .b (.lit (.bool f)), .b (.lit (.int .i64 z))]⟩)], 51⟩ from rnd_run 1000 [pk (bF_lss 3 (n : Int) (n : Int))] (by kernel_rfl)) (t := ⟨[], [(14, some ⟨57, some (9, n), flatR ((M).map (rowT c))⟩), (0, some ⟨25, none, [.sl 14, .b (.lit (.bool f)), .b (.lit (.int .i64 z))]⟩)], 50⟩) trivial ⟨rfl, rfl, rfl, ILe.refl, rfl, rfl, rfl, ILe.refl, trivial⟩)

def chE (L : List Nd) (x : Ch) : Int := if x.kind = 1 then raE L x else if x.kind = 2 then spE L x else if x.kind = 3 then fiE x else 5
/-- the tree behind a change that is possible, before nodes are closed -/
def chM (L : List Nd) (f : Bool) (z : Int) (x : Ch) : List Nd × Bool × Int := if x.kind = 1 then (raL L x, f, z) else if x.kind = 2 then (spL L x, f, z) else (L, fnF f z x)
def chS (L : List Nd) (f : Bool) (z : Int) (x : Ch) : List Nd × Bool × Int := (clL (chM L f z x).1 (chM L f z x).2.1 (chM L f z x).2.2, (chM L f z x).2)

theorem change_err (L : List Nd) (f : Bool) (z : Int) (n : Nat) (hn : L.length = n) (hl : n ≤ 2000) (hD : Dn L (L.length - 1)) (x : Ch) (h : chE L x ≠ 0) : SpM Tryz.prog I 38 [(0, some (tbx f z 1)), (1, some (nbx c L n))] [.one (.ptr 0 0), chT c' x] [(0, some (tbx f z 1)), (1, some (nbx c L n))] (li (chE L x)) := by
 unfold chE at h ⊢
 by_cases k1 : x.kind = 1
 ·rw [if_pos k1] at h ⊢
  have hs := raise_err (I := I) (c := c) (c' := c') L f z n hn x h
  generalize raE L x = r at *
  exact spm_run (nt := 56) 1000 [pk (bT_eql 3 x.kind 1), pom [0, 1] (hs), pk (bT_neq 36 r 0)] (by kernel_rfl)
 ·rw [if_neg k1] at h ⊢
  by_cases k2 : x.kind = 2
  ·rw [if_pos k2] at h ⊢
   have hs := split_err (I := I) (c := c) (c' := c') L f z n hn hl hD x h
   generalize spE L x = r at *
   exact spm_run (nt := 56) 1000 [pk (bF_eql 3 x.kind 1), pk (bT_eql 3 x.kind 2), pom [0, 1] (hs), pk (bT_neq 36 r 0)] (by kernel_rfl)
  ·rw [if_neg k2] at h ⊢
   by_cases k3 : x.kind = 3
   ·rw [if_pos k3] at h ⊢
    have hs := find_err (I := I) (c' := c') f z (nbx c L n) x h
    generalize fiE x = r at *
    exact spm_run (nt := 56) 1000 [pk (bF_eql 3 x.kind 1), pk (bF_eql 3 x.kind 2), pk (bT_eql 3 x.kind 3), pom [0, 1] (hs), pk (bT_neq 36 r 0)] (by kernel_rfl)
   ·rw [if_neg k3]
    exact spm_run (nt := 56) 1000 [pk (bF_eql 3 x.kind 1), pk (bF_eql 3 x.kind 2), pk (bF_eql 3 x.kind 3), pa] (by kernel_rfl)
theorem change_keep (L : List Nd) (f : Bool) (z : Int) (n : Nat) (hn : L.length = n) (hl : n ≤ 2000) (x : Ch) (h : chE L x = 0) (hk : x.kind ≠ 2) : SpM Tryz.prog I 38 [(0, some (tbx f z 1)), (1, some (nbx c L n))] [.one (.ptr 0 0), chT c' x] [(0, some (tbx (chS L f z x).2.1 (chS L f z x).2.2 1)), (1, some (nbx c (chS L f z x).1 n))] (li 0) := by
 unfold chE at h
 unfold chS chM
 by_cases k1 : x.kind = 1
 ·rw [if_pos k1] at h ⊢
  have hs := raise_ok (I := I) (c := c) (c' := c') L f z n hn x h
  have hm : (raL L x).length = n := by
   unfold raL
   split
   ·rw [List.length_set, hn]
   ·exact hn
  have lo := change_loop1 (I := I) (c := c) (raL L x) f z n hm (by omega)
  dsimp only
  generalize clL (raL L x) f z = K at *
  generalize raL L x = M at *
  exact spm_run (nt := 56) 1000 [pk (bT_eql 3 x.kind 1), pom [0, 1] (hs), pa, pl (lo)] (by kernel_rfl)
 ·rw [if_neg k1, if_neg hk] at h ⊢
  by_cases k3 : x.kind = 3
  ·rw [if_pos k3] at h
   have hs := find_ok (I := I) (c' := c') f z (nbx c L n) x h
   generalize fnF f z x = p at *
   obtain ⟨f2, z2⟩ := p
   dsimp only at hs ⊢
   have lo := change_loop1 (I := I) (c := c) L f2 z2 n hn (by omega)
   generalize clL L f2 z2 = K at *
   exact spm_run (nt := 56) 1000 [pk (bF_eql 3 x.kind 1), pk (bF_eql 3 x.kind 2), pk (bT_eql 3 x.kind 3), pom [0, 1] (hs), pa, pl (lo)] (by kernel_rfl)
  ·rw [if_neg k3] at h; omega
theorem change_split (L : List Nd) (f : Bool) (z : Int) (n : Nat) (hn : L.length = n) (hl : n ≤ 2000) (hD : Dn L (L.length - 1)) (x : Ch) (h : chE L x = 0) (hk : x.kind = 2) : SpM Tryz.prog I 38 [(0, some (tbx f z 1)), (1, some (nbx c L n))] [.one (.ptr 0 0), chT c' x] [(0, some (tbx (chS L f z x).2.1 (chS L f z x).2.2 2)), (2, some (nbx c (chS L f z x).1 (n + 2)))] (li 0) := by
 unfold chE at h
 unfold chS chM
 rw [if_neg (by omega), if_pos hk] at h ⊢
 have hs := split_ok (I := I) (c := c) (c' := c') L f z n hn hl hD x h
 have hm : (spL L x).length = n + 2 := by unfold spL; rw [List.length_append, marked_len, hn]; rfl
 have lo := change_loop14 (I := I) (c := c) (spL L x) f z (n + 2) hm (by omega)
 dsimp only
 generalize clL (spL L x) f z = K at *
 generalize spL L x = M at *
 exact spm_run (nt := 56) 1000 [pk (bF_eql 3 x.kind 1), pk (bT_eql 3 x.kind 2), pom [0, 1] (hs), pa, pl (lo), pm ((show Leads I _ ⟨[], [(14, some ⟨57, some (9, n + 2), flatR ((K).map (rowT c))⟩), (0, some ⟨25, none, [.sl 14, .b (.lit (.bool f)), .b (.lit (.int .i64 z))]⟩)], 50⟩ ⟨[], [(2, some ⟨57, some (9, n + 2), flatR ((K).map (rowT c))⟩), (0, some ⟨25, none, [.sl 2, .b (.lit (.bool f)), .b (.lit (.int .i64 z))]⟩)], 50⟩ from nam_leads [(2, 14)] trivial ⟨rfl, rfl, rfl, ILe.refl, rfl, rfl, rfl, ILe.refl, trivial⟩))] (by kernel_rfl)
end
end Go.Proofs.YtflajoflpkboiaaGreat

/- Apply and New of the program. -/
namespace Go.Proofs.YtflajoflpkboiaaGreat
open Go Go.RowKit
set_option linter.unusedVariables false
set_option linter.unusedSimpArgs false

theorem range_tat {α : Type} (L : List Nd) (g : Nd → α) : ((List.range L.length).map fun j => g (tat L j)) = L.map g := by
 apply List.ext_getElem?
 intro j
 rw [List.getElem?_map, List.getElem?_map]
 by_cases h : j < L.length
 ·rw [List.getElem?_range h, tat_some h]; rfl
 ·rw [List.getElem?_eq_none (by simpa using h), List.getElem?_eq_none (by omega)]; rfl
/-- rows of which the first i are canonical -/
def frR (c : Bool) (L : List Nd) (i : Nat) : List (List It0) := (List.range L.length).map fun j => rowT (decide (j < i) || c) (tat L j)
theorem frR_zero (c : Bool) (L : List Nd) : frR c L 0 = L.map (rowT c) := by
 rw [← range_tat L (rowT c)]
 unfold frR
 simp
theorem frR_end (c : Bool) (L : List Nd) : frR c L L.length = L.map (rowT true) := by
 rw [← range_tat L (rowT true)]
 unfold frR
 apply List.map_congr_left
 intro j hj
 rw [decide_eq_true (List.mem_range.1 hj)]; rfl
theorem frR_row {c : Bool} {L : List Nd} {i : Nat} (h : i < L.length) : (frR c L i)[i]? = some (rowT c (tat L i)) := by
 unfold frR
 rw [range_some h]
 simp
theorem frR_set {c : Bool} {L : List Nd} {i : Nat} (h : i < L.length) : (frR c L i).set i (rowT true (tat L i)) = frR c L (i + 1) := by
 have := set_range (f := fun j => rowT (decide (j < i) || c) (tat L j)) (f' := fun j => rowT (decide (j < i + 1) || c) (tat L j)) (n := L.length) (i := i) fun x hx _ => by
  have : decide (x < i) = decide (x < i + 1) := by
   by_cases hxi : x < i
   ·rw [decide_eq_true hxi, decide_eq_true (by omega)]
   ·rw [decide_eq_false hxi, decide_eq_false (by omega)]
  simp only [this]
 simp only [decide_eq_true (Nat.lt_succ_self i), Bool.true_or] at this
 exact this
theorem frR_ok {c : Bool} {L : List Nd} {i : Nat} : okR 9 (frR c L i) := by
 intro r hr
 obtain ⟨j, _, rfl⟩ := List.mem_map.1 hr
 refine ⟨rfl, fun y hy => ?_⟩
 simp at hy
 rcases hy with rfl | rfl | rfl | rfl | rfl | rfl <;> first | exact Nat.one_pos | exact (by decide : 0 < 4)
section
variable {I : WInv} {c c' : Bool}

def apst (k : Nat) (M : List (List It0)) (n : Nat) (f : Bool) (z : Int) (i : Int) : Go.Proofs.YtflajoflpkboiaaGreat.St := ⟨[(7, .cv (.one (.ptr 20 0))), (4, .cv (.one (.ptr 5 0))), (32, .cv (.one (.b (.lit (.int .i64 (n : Int)))))), (33, .cv (.one (.b (.lit (.int .i64 i)))))], [(k, some ⟨57, some (9, n), flatR M⟩), (20, some ⟨25, none, [.sl k, .b (.lit (.bool f)), .b (.lit (.int .i64 z))]⟩), (5, some ⟨25, none, [.b (.lit (.slice none 0 0)), .b (.lit (.bool false)), .b (.lit (.int .i64 0))]⟩)], 50⟩
def apend (k : Nat) (M : List (List It0)) (n : Nat) (f : Bool) (z : Int) : Go.Proofs.YtflajoflpkboiaaGreat.St := ⟨[(7, .cv (.one (.ptr 20 0))), (4, .cv (.one (.ptr 5 0)))], [(k, some ⟨57, some (9, n), flatR M⟩), (20, some ⟨25, none, [.sl k, .b (.lit (.bool f)), .b (.lit (.int .i64 z))]⟩), (5, some ⟨25, none, [.b (.lit (.slice none 0 0)), .b (.lit (.bool false)), .b (.lit (.int .i64 0))]⟩)], 50⟩
theorem apply_loop14 (M : List Nd) (f : Bool) (z : Int) (n : Nat) (hn : M.length = n) (hl : n ≤ 2002) : LoopTr Tryz.prog I 50 (loopC Tryz.prog 14 0) (apst 14 (M.map (rowT c)) n f z ((0 : Nat) : Int)) (.exit 0) (apend 14 (M.map (rowT true)) n f z) := by
 rw [← frR_zero]
 refine loop_up (by simp) (fun i => apst 14 (frR c M i) n f z (i : Int)) n (fun i hi => ?_) ?_
 ·have hi : i < M.length := by omega
  exact Rnd.nam [] (show Rnd _ _ _ _ _ _ ⟨[(7, .cv (.one (.ptr 20 0))), (4, .cv (.one (.ptr 5 0))), (32, .cv (.one (.b (.lit (.int .i64 (n : Int)))))), (33, .cv (.one (.b (.lit (.int .i64 ((i + 1 : Nat) : Int))))))], [(14, some ⟨57, some (9, n), flatR ((frR c M i).set i [.lit (.int .i64 ((tat M i).par)), .lit (.int .i64 ((tat M i).fst)), .lit (.int .i64 ((tat M i).nxt)), .lit (.bool ((tat M i).tog)), .it (fF true 12 ((tat M i).q)), .lit (.int .i64 ((tat M i).st))])⟩), (20, some ⟨25, none, [.sl 14, .b (.lit (.bool f)), .b (.lit (.int .i64 z))]⟩), (5, some ⟨25, none, [.b (.lit (.slice none 0 0)), .b (.lit (.bool false)), .b (.lit (.int .i64 0))]⟩)], 68⟩ from rnd_run 1000 [pk (bT_lss 3 (i : Int) (n : Int)), ⟨.ix (i : Int) i n, ⟨by omega, by omega⟩⟩, ⟨.part (flatR (frR c M i)) (i * 9 + 4) 4 [.b (.it (fF c 12 (tat M i).q))], (sub_row (sz := 9) (r := rowT c (tat M i)) (frR_row hi) frR_ok (fo := 4) (n := 4) rfl)⟩, po (fresh_sp (I := I) (c := c) (p := (tat M i).q)), ⟨.ix (i : Int) i n, ⟨by omega, by omega⟩⟩, ⟨.upd (flatR (frR c M i)) (i * 9 + 4) [.b (.it (fF true 12 ((tat M i).q)))] (flatR ((frR c M i).set i [.lit (.int .i64 ((tat M i).par)), .lit (.int .i64 ((tat M i).fst)), .lit (.int .i64 ((tat M i).nxt)), .lit (.bool ((tat M i).tog)), .it (fF true 12 ((tat M i).q)), .lit (.int .i64 ((tat M i).st))])), (upd_row (sz := 9) (r := rowT c (tat M i)) (r' := [.lit (.int .i64 ((tat M i).par)), .lit (.int .i64 ((tat M i).fst)), .lit (.int .i64 ((tat M i).nxt)), .lit (.bool ((tat M i).tog)), .it (fF true 12 ((tat M i).q)), .lit (.int .i64 ((tat M i).st))]) (frR_row hi) frR_ok (fo := 4) rfl)⟩, pk (b_add 3 (i : Int) 1 ⟨by omega, by omega⟩)] (by kernel_rfl)) (t := ⟨[(7, .cv (.one (.ptr 20 0))), (4, .cv (.one (.ptr 5 0))), (32, .cv (.one (.b (.lit (.int .i64 (n : Int)))))), (33, .cv (.one (.b (.lit (.int .i64 ((i + 1 : Nat) : Int))))))], [(14, some ⟨57, some (9, n), flatR (frR c M (i + 1))⟩), (20, some ⟨25, none, [.sl 14, .b (.lit (.bool f)), .b (.lit (.int .i64 z))]⟩), (5, some ⟨25, none, [.b (.lit (.slice none 0 0)), .b (.lit (.bool false)), .b (.lit (.int .i64 0))]⟩)], 50⟩) ⟨rfl, TVle.refl, rfl, TVle.refl, rfl, TVle.refl, rfl, TVle.refl, trivial⟩ ⟨rfl, rfl, rfl, ILe.eq (show flatR ((frR c M i).set i [.lit (.int .i64 ((tat M i).par)), .lit (.int .i64 ((tat M i).fst)), .lit (.int .i64 ((tat M i).nxt)), .lit (.bool ((tat M i).tog)), .it (fF true 12 ((tat M i).q)), .lit (.int .i64 ((tat M i).st))]) = flatR (frR c M (i + 1)) from (congrArg flatR (frR_set hi))), rfl, rfl, rfl, ILe.refl, rfl, rfl, rfl, ILe.refl, trivial⟩
 ·have e := frR_end c M
  rw [hn] at e
  show Rnd Tryz.prog I _ _ (apst 14 (frR c M n) n f z (n : Int)) _ _
  rw [e]
  exact Rnd.nam [] (show Rnd _ _ _ _ _ _ ⟨[(7, .cv (.one (.ptr 20 0))), (4, .cv (.one (.ptr 5 0)))], [(14, some ⟨57, some (9, n), flatR ((M).map (rowT true))⟩), (20, some ⟨25, none, [.sl 14, .b (.lit (.bool f)), .b (.lit (.int .i64 z))]⟩), (5, some ⟨25, none, [.b (.lit (.slice none 0 0)), .b (.lit (.bool false)), .b (.lit (.int .i64 0))]⟩)], 51⟩ from rnd_run 1000 [pk (bF_lss 3 (n : Int) (n : Int))] (by kernel_rfl)) (t := ⟨[(7, .cv (.one (.ptr 20 0))), (4, .cv (.one (.ptr 5 0)))], [(14, some ⟨57, some (9, n), flatR ((M).map (rowT true))⟩), (20, some ⟨25, none, [.sl 14, .b (.lit (.bool f)), .b (.lit (.int .i64 z))]⟩), (5, some ⟨25, none, [.b (.lit (.slice none 0 0)), .b (.lit (.bool false)), .b (.lit (.int .i64 0))]⟩)], 50⟩) ⟨rfl, TVle.refl, rfl, TVle.refl, trivial⟩ ⟨rfl, rfl, rfl, ILe.refl, rfl, rfl, rfl, ILe.refl, rfl, rfl, rfl, ILe.refl, trivial⟩
theorem apply_loop23 (M : List Nd) (f : Bool) (z : Int) (n : Nat) (hn : M.length = n) (hl : n ≤ 2002) : LoopTr Tryz.prog I 50 (loopC Tryz.prog 14 0) (apst 23 (M.map (rowT c)) n f z ((0 : Nat) : Int)) (.exit 0) (apend 23 (M.map (rowT true)) n f z) := by
 rw [← frR_zero]
 refine loop_up (by simp) (fun i => apst 23 (frR c M i) n f z (i : Int)) n (fun i hi => ?_) ?_
 ·have hi : i < M.length := by omega
  exact Rnd.nam [] (show Rnd _ _ _ _ _ _ ⟨[(7, .cv (.one (.ptr 20 0))), (4, .cv (.one (.ptr 5 0))), (32, .cv (.one (.b (.lit (.int .i64 (n : Int)))))), (33, .cv (.one (.b (.lit (.int .i64 ((i + 1 : Nat) : Int))))))], [(23, some ⟨57, some (9, n), flatR ((frR c M i).set i [.lit (.int .i64 ((tat M i).par)), .lit (.int .i64 ((tat M i).fst)), .lit (.int .i64 ((tat M i).nxt)), .lit (.bool ((tat M i).tog)), .it (fF true 12 ((tat M i).q)), .lit (.int .i64 ((tat M i).st))])⟩), (20, some ⟨25, none, [.sl 23, .b (.lit (.bool f)), .b (.lit (.int .i64 z))]⟩), (5, some ⟨25, none, [.b (.lit (.slice none 0 0)), .b (.lit (.bool false)), .b (.lit (.int .i64 0))]⟩)], 68⟩ from rnd_run 1000 [pk (bT_lss 3 (i : Int) (n : Int)), ⟨.ix (i : Int) i n, ⟨by omega, by omega⟩⟩, ⟨.part (flatR (frR c M i)) (i * 9 + 4) 4 [.b (.it (fF c 12 (tat M i).q))], (sub_row (sz := 9) (r := rowT c (tat M i)) (frR_row hi) frR_ok (fo := 4) (n := 4) rfl)⟩, po (fresh_sp (I := I) (c := c) (p := (tat M i).q)), ⟨.ix (i : Int) i n, ⟨by omega, by omega⟩⟩, ⟨.upd (flatR (frR c M i)) (i * 9 + 4) [.b (.it (fF true 12 ((tat M i).q)))] (flatR ((frR c M i).set i [.lit (.int .i64 ((tat M i).par)), .lit (.int .i64 ((tat M i).fst)), .lit (.int .i64 ((tat M i).nxt)), .lit (.bool ((tat M i).tog)), .it (fF true 12 ((tat M i).q)), .lit (.int .i64 ((tat M i).st))])), (upd_row (sz := 9) (r := rowT c (tat M i)) (r' := [.lit (.int .i64 ((tat M i).par)), .lit (.int .i64 ((tat M i).fst)), .lit (.int .i64 ((tat M i).nxt)), .lit (.bool ((tat M i).tog)), .it (fF true 12 ((tat M i).q)), .lit (.int .i64 ((tat M i).st))]) (frR_row hi) frR_ok (fo := 4) rfl)⟩, pk (b_add 3 (i : Int) 1 ⟨by omega, by omega⟩)] (by kernel_rfl)) (t := ⟨[(7, .cv (.one (.ptr 20 0))), (4, .cv (.one (.ptr 5 0))), (32, .cv (.one (.b (.lit (.int .i64 (n : Int)))))), (33, .cv (.one (.b (.lit (.int .i64 ((i + 1 : Nat) : Int))))))], [(23, some ⟨57, some (9, n), flatR (frR c M (i + 1))⟩), (20, some ⟨25, none, [.sl 23, .b (.lit (.bool f)), .b (.lit (.int .i64 z))]⟩), (5, some ⟨25, none, [.b (.lit (.slice none 0 0)), .b (.lit (.bool false)), .b (.lit (.int .i64 0))]⟩)], 50⟩) ⟨rfl, TVle.refl, rfl, TVle.refl, rfl, TVle.refl, rfl, TVle.refl, trivial⟩ ⟨rfl, rfl, rfl, ILe.eq (show flatR ((frR c M i).set i [.lit (.int .i64 ((tat M i).par)), .lit (.int .i64 ((tat M i).fst)), .lit (.int .i64 ((tat M i).nxt)), .lit (.bool ((tat M i).tog)), .it (fF true 12 ((tat M i).q)), .lit (.int .i64 ((tat M i).st))]) = flatR (frR c M (i + 1)) from (congrArg flatR (frR_set hi))), rfl, rfl, rfl, ILe.refl, rfl, rfl, rfl, ILe.refl, trivial⟩
 ·have e := frR_end c M
  rw [hn] at e
  show Rnd Tryz.prog I _ _ (apst 23 (frR c M n) n f z (n : Int)) _ _
  rw [e]
  exact Rnd.nam [] (show Rnd _ _ _ _ _ _ ⟨[(7, .cv (.one (.ptr 20 0))), (4, .cv (.one (.ptr 5 0)))], [(23, some ⟨57, some (9, n), flatR ((M).map (rowT true))⟩), (20, some ⟨25, none, [.sl 23, .b (.lit (.bool f)), .b (.lit (.int .i64 z))]⟩), (5, some ⟨25, none, [.b (.lit (.slice none 0 0)), .b (.lit (.bool false)), .b (.lit (.int .i64 0))]⟩)], 51⟩ from rnd_run 1000 [pk (bF_lss 3 (n : Int) (n : Int))] (by kernel_rfl)) (t := ⟨[(7, .cv (.one (.ptr 20 0))), (4, .cv (.one (.ptr 5 0)))], [(23, some ⟨57, some (9, n), flatR ((M).map (rowT true))⟩), (20, some ⟨25, none, [.sl 23, .b (.lit (.bool f)), .b (.lit (.int .i64 z))]⟩), (5, some ⟨25, none, [.b (.lit (.slice none 0 0)), .b (.lit (.bool false)), .b (.lit (.int .i64 0))]⟩)], 50⟩) ⟨rfl, TVle.refl, rfl, TVle.refl, trivial⟩ ⟨rfl, rfl, rfl, ILe.refl, rfl, rfl, rfl, ILe.refl, rfl, rfl, rfl, ILe.refl, trivial⟩
def apC (L : List Nd) (f : Bool) (z : Int) (x : Ch) : Int := if tvc L f z ≠ 0 then tvc L f z else chE L x
def apS (L : List Nd) (f : Bool) (z : Int) (x : Ch) : List Nd × Bool × Int := if apC L f z x = 0 then chS L f z x else ([], false, 0)
theorem zt_le : CTle (.ag [.b (.lit (.slice none 0 0)), .b (.lit (.bool false)), .b (.lit (.int .i64 0))]) (trT true [] false 0) := ILe.ag (ILe.cons (fun N w g l hl => by
 have hl : l = [.slice none 0 0] := hl
 subst hl
 exact ⟨none, 0, rfl, Nat.le_refl _, by simp [maxLen], fun h => absurd rfl h⟩) ILe.refl)
theorem Sp.errT {P : Program} {g : FuncId} {args : List CT} {r : CT} (h : Sp P I g args (.tu [.ag [.b (.lit (.slice none 0 0)), .b (.lit (.bool false)), .b (.lit (.int .i64 0))], r])) : Sp P I g args (.tu [trT true [] false 0, r]) := h.rs (tu_le ⟨zt_le, CTle.refl, trivial⟩)
theorem chM_len (L : List Nd) (f : Bool) (z : Int) (x : Ch) : (chM L f z x).1.length = if x.kind = 2 then L.length + 2 else L.length := by
 unfold chM
 by_cases k1 : x.kind = 1
 ·rw [if_pos k1, if_neg (by omega)]
  unfold raL
  dsimp only
  split
  ·rw [List.length_set]
  ·rfl
 ·rw [if_neg k1]
  by_cases k2 : x.kind = 2
  ·rw [if_pos k2, if_pos k2]
   unfold spL
   rw [List.length_append, marked_len]; rfl
  ·rw [if_neg k2, if_neg k2]
theorem chS_len (L : List Nd) (f : Bool) (z : Int) (x : Ch) : (chS L f z x).1.length = if x.kind = 2 then L.length + 2 else L.length := by
 unfold chS clL
 rw [List.length_map, chM_len]

theorem apply_spm (L : List Nd) (f : Bool) (z : Int) (x : Ch) (h : tvc L f z = 0) (hc : chE L x = 0) : SpM Tryz.prog I 14 [] [trT c L f z, chT c' x] [(2, some (nbx true (chS L f z x).1 (chS L f z x).1.length))] (.tu [.ag [.sl 2, .b (.lit (.bool (chS L f z x).2.1)), .b (.lit (.int .i64 (chS L f z x).2.2))], ci 0]) := by
 obtain ⟨h1, h2, _, _, _, h6, _⟩ := tvc_ok h
 have hD := (shB_dn h6).2
 have va := tvalidate_sp (I := I) (c := c) L f z (by omega)
 rw [h] at va
 have cl := clone_spn (I := I) (c := c) L (by omega) (by omega)
 have hlen := chS_len L f z x
 by_cases hk : x.kind = 2
 ·rw [if_pos hk] at hlen
  have hs := change_split (I := I) (c := c) (c' := c') L f z L.length rfl h2 hD x hc hk
  rw [hlen]
  generalize chS L f z x = p at *
  obtain ⟨M, f2, z2⟩ := p
  have lo := apply_loop23 (I := I) (c := c) M f2 z2 (L.length + 2) hlen (by omega)
  generalize L.length = n at *
  dsimp only at hs ⊢
  exact spm_run (nt := 50) 1000 [po (va), pa, pon (cl), pom [20, 14] (hs), pa, pl (lo), pm ((show Leads I _ ⟨[(7, .cv (.one (.ptr 20 0))), (4, .cv (.one (.ptr 5 0)))], [(23, some ⟨57, some (9, n + 2), flatR ((M).map (rowT true))⟩), (20, some ⟨25, none, [.sl 23, .b (.lit (.bool f2)), .b (.lit (.int .i64 z2))]⟩), (5, some ⟨25, none, [.b (.lit (.slice none 0 0)), .b (.lit (.bool false)), .b (.lit (.int .i64 0))]⟩)], 50⟩ ⟨[(7, .cv (.one (.ptr 20 0))), (4, .cv (.one (.ptr 5 0)))], [(2, some ⟨57, some (9, n + 2), flatR ((M).map (rowT true))⟩), (20, some ⟨25, none, [.sl 2, .b (.lit (.bool f2)), .b (.lit (.int .i64 z2))]⟩), (5, some ⟨25, none, [.b (.lit (.slice none 0 0)), .b (.lit (.bool false)), .b (.lit (.int .i64 0))]⟩)], 50⟩ from nam_leads [(2, 23)] ⟨rfl, TVle.refl, rfl, TVle.refl, trivial⟩ ⟨rfl, rfl, rfl, ILe.refl, rfl, rfl, rfl, ILe.refl, rfl, rfl, rfl, ILe.refl, trivial⟩))] (by kernel_rfl)
 ·rw [if_neg hk] at hlen
  have hs := change_keep (I := I) (c := c) (c' := c') L f z L.length rfl h2 x hc hk
  rw [hlen]
  generalize chS L f z x = p at *
  obtain ⟨M, f2, z2⟩ := p
  have lo := apply_loop14 (I := I) (c := c) M f2 z2 L.length hlen (by omega)
  generalize L.length = n at *
  dsimp only at hs ⊢
  exact spm_run (nt := 50) 1000 [po (va), pa, pon (cl), pom [20, 14] (hs), pa, pl (lo), pm ((show Leads I _ ⟨[(7, .cv (.one (.ptr 20 0))), (4, .cv (.one (.ptr 5 0)))], [(14, some ⟨57, some (9, n), flatR ((M).map (rowT true))⟩), (20, some ⟨25, none, [.sl 14, .b (.lit (.bool f2)), .b (.lit (.int .i64 z2))]⟩), (5, some ⟨25, none, [.b (.lit (.slice none 0 0)), .b (.lit (.bool false)), .b (.lit (.int .i64 0))]⟩)], 50⟩ ⟨[(7, .cv (.one (.ptr 20 0))), (4, .cv (.one (.ptr 5 0)))], [(2, some ⟨57, some (9, n), flatR ((M).map (rowT true))⟩), (20, some ⟨25, none, [.sl 2, .b (.lit (.bool f2)), .b (.lit (.int .i64 z2))]⟩), (5, some ⟨25, none, [.b (.lit (.slice none 0 0)), .b (.lit (.bool false)), .b (.lit (.int .i64 0))]⟩)], 50⟩ from nam_leads [(2, 14)] ⟨rfl, TVle.refl, rfl, TVle.refl, trivial⟩ ⟨rfl, rfl, rfl, ILe.refl, rfl, rfl, rfl, ILe.refl, rfl, rfl, rfl, ILe.refl, trivial⟩))] (by kernel_rfl)
theorem tapply_sp (L : List Nd) (f : Bool) (z : Int) (hl : L.length ≤ 1000000000) (x : Ch) : Sp Tryz.prog I 14 [trT c L f z, chT c' x] (.tu [trT true (apS L f z x).1 (apS L f z x).2.1 (apS L f z x).2.2, ci (apC L f z x)]) := by
 by_cases h : tvc L f z = 0
 ·have e : apC L f z x = chE L x := by unfold apC; rw [if_neg (fun hh => hh h)]
  unfold apS
  rw [e]
  by_cases hc : chE L x = 0
  ·rw [if_pos hc, hc]
   exact (apply_spm (I := I) (c := c) (c' := c') L f z x h hc).freeze (by rw [List.length_map]) rowT_w rfl
  ·rw [if_neg hc]
   obtain ⟨h1, h2, _, _, _, h6, _⟩ := tvc_ok h
   have hD := (shB_dn h6).2
   have va := tvalidate_sp (I := I) (c := c) L f z (by omega)
   rw [h] at va
   have cl := clone_spn (I := I) (c := c) L (by omega) (by omega)
   have hs := change_err (I := I) (c := c) (c' := c') L f z L.length rfl h2 hD x hc
   refine Sp.errT ?_
   generalize chE L x = r at *
   generalize L.length = n at *
   exact sp_run (nt := 50) 1000 [po (va), pa, pon (cl), pom [17, 11] (hs), pk (bT_neq 36 r 0)] (by kernel_rfl)
 ·have e : apC L f z x = tvc L f z := by unfold apC; rw [if_pos h]
  unfold apS
  rw [e, if_neg h]
  have va := tvalidate_sp (I := I) (c := c) L f z hl
  refine Sp.errT ?_
  generalize tvc L f z = r at *
  exact sp_run (nt := 50) 1000 [po (va), pk (bT_neq 36 r 0)] (by kernel_rfl)
/-- an open root -/
def rootL (q : Rat) : List Nd := [⟨-1, 0, 0, false, q, 0⟩]
theorem tnew_sp (q : Rat) : Sp Tryz.prog I 18 [fc c 12 q] (.cv (trT true (rootL q) false 0)) := by
 have h : SpM Tryz.prog I 18 [] [fc c 12 q] [(2, some (nbx true (rootL q) 1))] (.cv (.ag [.sl 2, .b (.lit (.bool false)), .b (.lit (.int .i64 0))])) := spm_run (nt := 8) 1000 [po (fresh_sp (I := I) (c := c) (p := q)), pm ((show Leads I _ ⟨[(2, .cv (.one (.ptr 4 0)))], [(8, some ⟨57, some (9, 1), [.b (.lit (.int .i64 (-1))), .b (.lit (.int .i64 0)), .b (.lit (.int .i64 0)), .b (.lit (.bool false)), .b (.it (fF true 12 q)), .b (.lit (.int .i64 0))]⟩), (4, some ⟨25, none, [.sl 8, .b (.lit (.bool false)), .b (.lit (.int .i64 0))]⟩)], 11⟩ ⟨[(2, .cv (.one (.ptr 4 0)))], [(2, some ⟨57, some (9, 1), [.b (.lit (.int .i64 (-1))), .b (.lit (.int .i64 0)), .b (.lit (.int .i64 0)), .b (.lit (.bool false)), .b (.it (fF true 12 q)), .b (.lit (.int .i64 0))]⟩), (4, some ⟨25, none, [.sl 2, .b (.lit (.bool false)), .b (.lit (.int .i64 0))]⟩)], 11⟩ from nam_leads [(2, 8)] ⟨rfl, TVle.refl, trivial⟩ ⟨rfl, rfl, rfl, ILe.refl, rfl, rfl, rfl, ILe.refl, trivial⟩))] (by kernel_rfl)
 exact h.freeze rfl rowT_w rfl
end
end Go.Proofs.YtflajoflpkboiaaGreat

/- The reference's lists and paths. -/
namespace Go.Proofs.YtflajoflpkboiaaGreat
open Go Go.RowKit
set_option linter.unusedVariables false
set_option linter.unusedSimpArgs false

abbrev rowBo (x : Bool) : List It0 := [.lit (.bool x)]
def bat (D : List Bool) (i : Nat) : Bool := D.getD i false
theorem bat_some {D : List Bool} {i : Nat} (h : i < D.length) : D[i]? = some (bat D i) := by unfold bat; rw [List.getD_eq_getElem?_getD, List.getElem?_eq_getElem h]; rfl
theorem bat_row {D : List Bool} {i : Nat} {f : Bool → List It0} (h : i < D.length) : (D.map f)[i]? = some (f (bat D i)) := map_some (bat_some h)
theorem rowBo_w {D : List Bool} : ∀ r ∈ D.map rowBo, widthO r = 1 := by intro r hr; obtain ⟨x, _, rfl⟩ := List.mem_map.1 hr; rfl
def parI (L : List Nd) : List Int := L.map (·.par)
def decL (L : List Nd) : List De := L.map dcn
def spB' (L : List Nd) : List Bool := L.map fun x => decide (x.st = 1)
theorem parI_at {L : List Nd} {i : Nat} (h : i < L.length) : iat (parI L) i = (tat L i).par := by unfold iat parI; rw [List.getD_eq_getElem?_getD, List.getElem?_map, tat_some h]; rfl
theorem decL_at {L : List Nd} {i : Nat} (h : i < L.length) : dat (decL L) i = dcn (tat L i) := by unfold dat decL; rw [List.getD_eq_getElem?_getD, List.getElem?_map, tat_some h]; rfl
theorem spB'_at {L : List Nd} {i : Nat} (h : i < L.length) : bat (spB' L) i = decide ((tat L i).st = 1) := by unfold bat spB'; rw [List.getD_eq_getElem?_getD, List.getElem?_map, tat_some h]; rfl
theorem parI_len (L : List Nd) : (parI L).length = L.length := List.length_map _
theorem decL_len (L : List Nd) : (decL L).length = L.length := List.length_map _
theorem spB'_len (L : List Nd) : (spB' L).length = L.length := List.length_map _
/-- the first i of them -/
def fst' {α : Type} (L : List Nd) (g : Nd → α) (i : Nat) : List α := (List.range i).map fun j => g (tat L j)
theorem fst'_succ {α : Type} (L : List Nd) (g : Nd → α) (i : Nat) : fst' L g (i + 1) = fst' L g i ++ [g (tat L i)] := by unfold fst'; rw [List.range_succ, List.map_append]; rfl
theorem fst'_end {α : Type} (L : List Nd) (g : Nd → α) : fst' L g L.length = L.map g := range_tat L g
section
variable {I : WInv} {c c' : Bool}

def lsst (c : Bool) (L : List Nd) (f : Bool) (z : Int) (i : Nat) : Go.Proofs.YtflajoflpkboiaaGreat.St := ⟨[(1, .cv (.one (.ptr 0 0))), (5, .cv (.one (.sl 40))), (6, .cv (.one (.sl 41))), (7, .cv (.one (.sl 42))), (8, .cv (.one (.b (.lit (.int .i64 (i : Int))))))], [(40, some ⟨3, some (1, i), flatR ((fst' L (·.par) i).map rowZi)⟩), (41, some ⟨55, some (3, i), flatR ((fst' L dcn i).map rowD)⟩), (42, some ⟨4, some (1, i), flatR ((fst' L (fun x => decide (x.st = 1)) i).map rowBo)⟩), (0, some ⟨25, none, [.b (.it (slI 9 ((L).map (rowT c)))), .b (.lit (.bool f)), .b (.lit (.int .i64 z))]⟩)], 50⟩
theorem lists_round (L : List Nd) (f : Bool) (z : Int) (i : Nat) (hi : i < L.length) (hl : L.length ≤ 2002) : Rnd Tryz.prog I 47 (loopC Tryz.prog 43 0) (lsst c L f z i) .normal (lsst c L f z (i + 1)) := by
 exact Rnd.nam [(40, 63), (41, 72), (42, 82)] (show Rnd _ _ _ _ _ _ ⟨[(1, .cv (.one (.ptr 0 0))), (5, .cv (.one (.sl 63))), (6, .cv (.one (.sl 72))), (7, .cv (.one (.sl 82))), (8, .cv (.one (.b (.lit (.int .i64 ((i + 1 : Nat) : Int))))))], [(63, some ⟨3, some (1, i + 1), (flatR ((fst' L (·.par) i).map rowZi)) ++ ([.b (.lit (.int .i64 ((tat L i).par)))])⟩), (72, some ⟨55, some (3, i + 1), (flatR ((fst' L dcn i).map rowD)) ++ ([.b (.lit (.int .i64 ((tat L i).fst))), .b (.lit (.int .i64 ((tat L i).nxt))), .b (.lit (.bool ((tat L i).tog)))])⟩), (82, some ⟨4, some (1, i + 1), (flatR ((fst' L (fun x => decide (x.st = 1)) i).map rowBo)) ++ ([.b (.lit (.bool (decide (((tat L i).st) = 1))))])⟩), (0, some ⟨25, none, [.b (.it (slI 9 ((L).map (rowT c)))), .b (.lit (.bool f)), .b (.lit (.int .i64 z))]⟩)], 89⟩ from rnd_run 1000 [pk (sl_ln 23 57 3 9 ((L).map (rowT c)) ((L).length : Int)), pk (bT_lss 3 (i : Int) ((L).length : Int)), pk (sl_ix 23 57 9 ((L).map (rowT c)) i (i : Int) ((rowT c) (tat L i)) (tat_row hi)), ⟨.ap i 1 8, ⟨by omega, by simp [maxLen]; omega⟩⟩, pk (sl_ix 23 57 9 ((L).map (rowT c)) i (i : Int) ((rowT c) (tat L i)) (tat_row hi)), ⟨.ap i 1 24, ⟨by omega, by simp [maxLen]; omega⟩⟩, pk (sl_ix 23 57 9 ((L).map (rowT c)) i (i : Int) ((rowT c) (tat L i)) (tat_row hi)), pk (b_eql 3 ((tat L i).st) 1 (decide (((tat L i).st) = 1)) rfl), ⟨.ap i 1 1, ⟨by omega, by simp [maxLen]; omega⟩⟩, pk (b_add 3 (i : Int) 1 ⟨by omega, by omega⟩)] (by kernel_rfl)) (t := ⟨[(1, .cv (.one (.ptr 0 0))), (5, .cv (.one (.sl 40))), (6, .cv (.one (.sl 41))), (7, .cv (.one (.sl 42))), (8, .cv (.one (.b (.lit (.int .i64 ((i + 1 : Nat) : Int))))))], [(40, some ⟨3, some (1, i + 1), flatR ((fst' L (·.par) (i + 1)).map rowZi)⟩), (41, some ⟨55, some (3, i + 1), flatR ((fst' L dcn (i + 1)).map rowD)⟩), (42, some ⟨4, some (1, i + 1), flatR ((fst' L (fun x => decide (x.st = 1)) (i + 1)).map rowBo)⟩), (0, some ⟨25, none, [.b (.it (slI 9 ((L).map (rowT c)))), .b (.lit (.bool f)), .b (.lit (.int .i64 z))]⟩)], 50⟩) ⟨rfl, TVle.refl, rfl, TVle.refl, rfl, TVle.refl, rfl, TVle.refl, rfl, TVle.refl, trivial⟩ ⟨rfl, rfl, rfl, ILe.eq (show (flatR ((fst' L (·.par) i).map rowZi)) ++ ([.b (.lit (.int .i64 ((tat L i).par)))]) = flatR ((fst' L (·.par) (i + 1)).map rowZi) from (by rw [fst'_succ, List.map_append, flatR_app]; rfl)), rfl, rfl, rfl, ILe.eq (show (flatR ((fst' L dcn i).map rowD)) ++ ([.b (.lit (.int .i64 ((tat L i).fst))), .b (.lit (.int .i64 ((tat L i).nxt))), .b (.lit (.bool ((tat L i).tog)))]) = flatR ((fst' L dcn (i + 1)).map rowD) from (by rw [fst'_succ, List.map_append, flatR_app]; rfl)), rfl, rfl, rfl, ILe.eq (show (flatR ((fst' L (fun x => decide (x.st = 1)) i).map rowBo)) ++ ([.b (.lit (.bool (decide (((tat L i).st) = 1))))]) = flatR ((fst' L (fun x => decide (x.st = 1)) (i + 1)).map rowBo) from (by rw [fst'_succ, List.map_append, flatR_app]; rfl)), rfl, rfl, rfl, ILe.refl, trivial⟩

theorem lists_pre (L : List Nd) (f : Bool) (z : Int) : Leads I 47 ⟨[(1, .cv (.one (.ptr 0 0))), (5, .cv (.one (.b (.lit (.slice none 0 0))))), (6, .cv (.one (.b (.lit (.slice none 0 0))))), (7, .cv (.one (.b (.lit (.slice none 0 0))))), (8, .cv (.one (.b (.lit (.int .i64 0)))))], [(0, some ⟨25, none, [.b (.it (slI 9 ((L).map (rowT c)))), .b (.lit (.bool f)), .b (.lit (.int .i64 z))]⟩)], 47⟩ (lsst c L f z 0) :=
 (nilA_leads (t := 5) (k := 40) 3 1 rfl rfl rfl).trans ((nilA_leads (t := 6) (k := 41) 55 3 rfl rfl rfl).trans ((nilA_leads (t := 7) (k := 42) 4 1 rfl rfl rfl).trans (pick_leads ⟨rfl, rfl, rfl, rfl, rfl, trivial⟩ ⟨rfl, rfl, rfl, rfl, trivial⟩)))
theorem lists_loop (L : List Nd) (f : Bool) (z : Int) (n : Nat) (hn : L.length = n) (hl : n ≤ 2002) : LoopTr Tryz.prog I 47 (loopC Tryz.prog 43 0) ⟨[(1, .cv (.one (.ptr 0 0))), (5, .cv (.one (.b (.lit (.slice none 0 0))))), (6, .cv (.one (.b (.lit (.slice none 0 0))))), (7, .cv (.one (.b (.lit (.slice none 0 0))))), (8, .cv (.one (.b (.lit (.int .i64 0)))))], [(0, some ⟨25, none, [.b (.it (slI 9 ((L).map (rowT c)))), .b (.lit (.bool f)), .b (.lit (.int .i64 z))]⟩)], 47⟩ (.exit 0) ⟨[(5, .cv (.one (.sl 40))), (6, .cv (.one (.sl 41))), (7, .cv (.one (.sl 42)))], [(40, some ⟨3, some (1, n), flatR ((parI L).map rowZi)⟩), (41, some ⟨55, some (3, n), flatR ((decL L).map rowD)⟩), (42, some ⟨4, some (1, n), flatR ((spB' L).map rowBo)⟩)], 50⟩ := by
 refine LoopTr.pre (lists_pre L f z) (loop_up (by simp) (fun i => lsst c L f z i) n (fun i hi => lists_round L f z i (by omega) (by omega)) ?_)
 unfold lsst
 rw [← hn, fst'_end, fst'_end, fst'_end, hn]
 exact Rnd.nam [] (show Rnd _ _ _ _ _ _ ⟨[(5, .cv (.one (.sl 40))), (6, .cv (.one (.sl 41))), (7, .cv (.one (.sl 42)))], [(40, some ⟨3, some (1, n), flatR ((parI L).map rowZi)⟩), (41, some ⟨55, some (3, n), flatR ((decL L).map rowD)⟩), (42, some ⟨4, some (1, n), flatR ((spB' L).map rowBo)⟩)], 55⟩ from rnd_run 1000 [pk (sl_ln 23 57 3 9 ((L).map (rowT c)) ((L).length : Int)), pk (bF_lss 3 (n : Int) ((L).length : Int))] (by kernel_rfl)) (t := ⟨[(5, .cv (.one (.sl 40))), (6, .cv (.one (.sl 41))), (7, .cv (.one (.sl 42)))], [(40, some ⟨3, some (1, n), flatR ((parI L).map rowZi)⟩), (41, some ⟨55, some (3, n), flatR ((decL L).map rowD)⟩), (42, some ⟨4, some (1, n), flatR ((spB' L).map rowBo)⟩)], 50⟩) ⟨rfl, TVle.refl, rfl, TVle.refl, rfl, TVle.refl, trivial⟩ ⟨rfl, rfl, rfl, ILe.refl, rfl, rfl, rfl, ILe.refl, rfl, rfl, rfl, ILe.refl, trivial⟩
abbrev parT (L : List Nd) : CT := .one (.b (.it (slI 1 ((parI L).map rowZi))))
abbrev decT (L : List Nd) : CT := .one (.b (.it (deI (decL L))))
abbrev splT (L : List Nd) : CT := .one (.b (.it (slI 1 ((spB' L).map rowBo))))
theorem lists_sp (L : List Nd) (f : Bool) (z : Int) (hl : L.length ≤ 2002) : Sp Tryz.prog I 43 [trT c L f z] (.tu [parT L, decT L, splT L]) := by
 obtain ⟨n, hn⟩ : ∃ n, L.length = n := ⟨_, rfl⟩
 have lo := lists_loop (I := I) (c := c) L f z n hn (by omega)
 exact sp_run (nt := 47) 1000 [pl (lo), pm (freeze_leads (I := I) (t := 5) (k := 40) (E := [(6, .cv (.one (.sl 41))), (7, .cv (.one (.sl 42)))]) (B := [(41, some ⟨55, some (3, n), flatR ((decL L).map rowD)⟩), (42, some ⟨4, some (1, n), flatR ((spB' L).map rowBo)⟩)]) (nx := 50) (T := 3) (sz := 1) (n := n) ((parI L).map rowZi) rfl (by rw [List.length_map, parI_len]; exact hn.symm) rowZi_w rfl), pm (freeze_leads (I := I) (t := 6) (k := 41) (E := [(5, .cv (.one (.b (.it (slI 1 ((parI L).map (rowZi))))))), (7, .cv (.one (.sl 42)))]) (B := [(42, some ⟨4, some (1, n), flatR ((spB' L).map rowBo)⟩)]) (nx := 50) (T := 55) (sz := 3) (n := n) ((decL L).map rowD) rfl (by rw [List.length_map, decL_len]; exact hn.symm) rowD_w rfl), pm (freeze_leads (I := I) (t := 7) (k := 42) (E := [(5, .cv (.one (.b (.it (slI 1 ((parI L).map (rowZi))))))), (6, .cv (.one (.b (.it (slI 3 ((decL L).map (rowD)))))))]) (B := []) (nx := 50) (T := 4) (sz := 1) (n := n) ((spB' L).map rowBo) rfl (by rw [List.length_map, spB'_len]; exact hn.symm) rowBo_w rfl)] (by kernel_rfl)
/-! ### paths -/
theorem pathD_zero (L : List Nd) : pathD L 0 = [] := by unfold pathD; rw [updec_zero]; rfl
theorem pathD_step {L : List Nd} {i j : Nat} (h : (tat L i).par = (j : Int)) (hj : j < i) : pathD L i = pathD L j ++ [dcn (tat L i)] := by unfold pathD; rw [updec_step h hj, List.reverse_cons]
theorem pathD_len (L : List Nd) (i : Nat) : (pathD L i).length ≤ i := by unfold pathD; rw [List.length_reverse]; exact updec_len L i

theorem rpath_zero (p d : CT) : Sp Tryz.prog I 44 [p, d, ci 0] (.cv (.one (.b (.lit (.slice none 0 0))))) := sp_run (nt := 22) 1000 [pa] (by kernel_rfl)
abbrev pathB (D : List De) : Ent := ⟨55, some (3, D.length), flatR (D.map rowD)⟩
theorem rpath_spm (L : List Nd) (hl : L.length ≤ 1000000) : ∀ i : Nat, 0 < i → i < L.length → Dn L i → SpM Tryz.prog I 44 [] [parT L, decT L, ci (i : Int)] [(2, some (pathB (pathD L i)))] (.cv (.one (.sl 2))) := by
 intro i
 induction i using Nat.strongRecOn with
 | _ i ih =>
  intro h0 hi hD
  obtain ⟨j, hj, hlt⟩ := hD.nat h0 (Nat.le_refl _)
  have hpa := parI_at hi
  rw [hj] at hpa
  have hdl := pathD_len L j
  rw [pathD_step hj hlt, ← decL_at hi]
  by_cases hj0 : j = 0
  ·subst hj0
   rw [pathD_zero]
   have hr := rpath_zero (I := I) (parT L) (decT L)
   rw [show (0 : Int) = iat (parI L) i from hpa.symm] at hr
   exact spm_run (nt := 22) 1000 [pk (bF_leq 3 (i : Int) 0), pk (sl_ix 22 3 1 ((parI L).map (rowZi)) i (i : Int) (rowZi (iat (parI L) i)) (iat_row (by rw [parI_len]; exact hi))), po (hr), pk (sl_ix 62 55 3 ((decL L).map (rowD)) i (i : Int) (rowD (dat (decL L) i)) (dat_row (by rw [decL_len]; exact hi))), ⟨.ap 0 1 24, ⟨by omega, by simp only [maxLen]; omega⟩⟩, pm ((show Leads I _ ⟨[(6, .cv (.one (.sl 18)))], [(18, some ⟨55, some (3, 1), [.b (.lit (.int .i64 ((dat (decL L) i).1))), .b (.lit (.int .i64 ((dat (decL L) i).2.1))), .b (.lit (.bool ((dat (decL L) i).2.2)))]⟩)], 20⟩ ⟨[(6, .cv (.one (.sl 2)))], [(2, some ⟨55, some (3, 1), [.b (.lit (.int .i64 ((dat (decL L) i).1))), .b (.lit (.int .i64 ((dat (decL L) i).2.1))), .b (.lit (.bool ((dat (decL L) i).2.2)))]⟩)], 20⟩ from nam_leads [(2, 18)] ⟨rfl, TVle.refl, trivial⟩ ⟨rfl, rfl, rfl, ILe.refl, trivial⟩))] (by kernel_rfl)
  ·have hr := ih j hlt (by omega) (by omega) (fun x h1 h2 => hD x h1 (by omega))
   rw [← hpa] at hr
   generalize pathD L j = D at *
   unfold pathB
   rw [List.length_append]
   exact spm_run (nt := 22) 1000 [pk (bF_leq 3 (i : Int) 0), pk (sl_ix 22 3 1 ((parI L).map (rowZi)) i (i : Int) (rowZi (iat (parI L) i)) (iat_row (by rw [parI_len]; exact hi))), pom [] (hr), pk (sl_ix 62 55 3 ((decL L).map (rowD)) i (i : Int) (rowD (dat (decL L) i)) (dat_row (by rw [decL_len]; exact hi))), ⟨.ap D.length 1 24, ⟨by omega, by simp only [maxLen]; omega⟩⟩, pm ((show Leads I _ ⟨[(6, .cv (.one (.sl 18)))], [(18, some ⟨55, some (3, D.length + 1), (flatR ((D).map rowD)) ++ ([.b (.lit (.int .i64 ((dat (decL L) i).1))), .b (.lit (.int .i64 ((dat (decL L) i).2.1))), .b (.lit (.bool ((dat (decL L) i).2.2)))])⟩)], 20⟩ ⟨[(6, .cv (.one (.sl 2)))], [(2, some ⟨55, some (3, D.length + 1), flatR ((D ++ [(dat (decL L) i)]).map rowD)⟩)], 20⟩ from nam_leads [(2, 18)] ⟨rfl, TVle.refl, trivial⟩ ⟨rfl, rfl, rfl, ILe.eq (show (flatR ((D).map rowD)) ++ ([.b (.lit (.int .i64 ((dat (decL L) i).1))), .b (.lit (.int .i64 ((dat (decL L) i).2.1))), .b (.lit (.bool ((dat (decL L) i).2.2)))]) = flatR ((D ++ [(dat (decL L) i)]).map rowD) from (by rw [List.map_append, flatR_app]; rfl)), trivial⟩))] (by kernel_rfl)
theorem nil_sl {sz : Nat} : TVle (.cv (.one (.b (.lit (.slice none 0 0))))) (tit (slI sz [])) := fun N w g v hl => by
 have hl : [v] = [.slice none 0 0] := hl
 injection hl with hl
 subst hl
 exact ⟨none, 0, rfl, Nat.le_refl _, by simp [maxLen], fun h => absurd rfl h⟩
theorem rpath_sp (L : List Nd) (hl : L.length ≤ 1000000) (i : Nat) (hi : i < L.length) (hD : Dn L i) : Sp Tryz.prog I 44 [parT L, decT L, ci (i : Int)] (tit (deI (pathD L i))) := by
 by_cases h0 : i = 0
 ·subst h0
  rw [pathD_zero]
  exact (rpath_zero (parT L) (decT L)).rs nil_sl
 ·exact (rpath_spm L hl i (by omega) hi hD).freeze (by rw [List.length_map]) rowD_w rfl
end
end Go.Proofs.YtflajoflpkboiaaGreat

/- The reference's Pairs. -/
namespace Go.Proofs.YtflajoflpkboiaaGreat
open Go Go.RowKit
set_option linter.unusedVariables false
set_option linter.unusedSimpArgs false

theorem drow {D : List De} {i : Nat} {b : Bool} (h : i < D.length) (hb : (dat D i).2.2 = b) : (D.map rowD)[i]? = some [.lit (.int .i64 (dat D i).1), .lit (.int .i64 (dat D i).2.1), .lit (.bool b)] := by rw [← hb]; exact dat_row h
theorem brow {D : List Bool} {i : Nat} {b : Bool} (h : i < D.length) (hb : bat D i = b) : (D.map rowBo)[i]? = some [.lit (.bool b)] := by rw [← hb]; exact bat_row h
section
variable {I : WInv} {c c' : Bool}

theorem zero_dec (x : De) : Sp Tryz.prog I 79 [.ag (dcl x)] (lb (decide (x = (0, 0, false)))) := by
 by_cases h1 : x.1 = 0
 ·by_cases h2 : x.2.1 = 0
  ·obtain ⟨a, b, t⟩ := x
   cases t with
   | true =>
    rw [show decide ((a, b, true) = (0, 0, false)) = false by simp]
    exact sp_run (nt := 16) 1000 [pk (b_eql 3 a 0 true (decide_eq_true h1)), pk (b_eql 3 b 0 true (decide_eq_true h2)), pa] (by kernel_rfl)
   | false =>
    rw [show decide ((a, b, false) = (0, 0, false)) = true by simp at h1 h2 ⊢; exact ⟨h1, h2⟩]
    exact sp_run (nt := 16) 1000 [pk (b_eql 3 a 0 true (decide_eq_true h1)), pk (b_eql 3 b 0 true (decide_eq_true h2)), pa] (by kernel_rfl)
  ·rw [show decide (x = (0, 0, false)) = false from decide_eq_false fun h => h2 (by rw [h])]
   exact sp_run (nt := 16) 1000 [pk (b_eql 3 x.1 0 true (decide_eq_true h1)), pk (b_eql 3 x.2.1 0 false (decide_eq_false h2))] (by kernel_rfl)
 ·rw [show decide (x = (0, 0, false)) = false from decide_eq_false fun h => h1 (by rw [h])]
  exact sp_run (nt := 16) 1000 [pk (b_eql 3 x.1 0 false (decide_eq_false h1))] (by kernel_rfl)

def qast (L : List Nd) (n : Nat) (C : List Int) (i : Int) : Go.Proofs.YtflajoflpkboiaaGreat.St := ⟨[(0, .cv (.one (.b (.it (slI 1 ((parI L).map (rowZi))))))), (1, .cv (.one (.b (.it (slI 3 ((decL L).map (rowD))))))), (2, .cv (.one (.b (.it (slI 1 ((spB' L).map (rowBo))))))), (7, .cv (.one (.b (.lit (.int .i64 (n : Int)))))), (8, .cv (.one (.sl 25))), (9, .cv (.one (.b (.lit (.int .i64 i)))))], [(25, some ⟨3, some (1, n), flatR ((C).map rowZi)⟩)], 50⟩
def qbad (nx : Nat) : Go.Proofs.YtflajoflpkboiaaGreat.St := ⟨[(6, lb false)], [], nx⟩
theorem pairs_round (L : List Nd) (n : Nat) (hn : L.length = n) (m : Nat) (hm : 2 * m + 2 < n) (hl : n ≤ 2002) :
  (prB L m = true → Rnd Tryz.prog I 192 (loopC Tryz.prog 55 0) (qast L n (clt L m) (2 * (m : Int) + 1)) .normal (qast L n (clt L (m + 1)) (2 * ((m + 1 : Nat) : Int) + 1))) ∧
  (prB L m = false → Rnd Tryz.prog I 192 (loopC Tryz.prog 55 0) (qast L n (clt L m) (2 * (m : Int) + 1)) .ret (qbad 50)) := by
 have e1 : 2 * m + 1 < (parI L).length := by rw [parI_len]; omega
 have e2 : 2 * m + 2 < (parI L).length := by rw [parI_len]; omega
 have f1 : 2 * m + 1 < (decL L).length := by rw [decL_len]; omega
 have f2 : 2 * m + 2 < (decL L).length := by rw [decL_len]; omega
 have hlp := parI_len L
 have g1 := parI_at (L := L) (i := 2 * m + 1) (by omega)
 have g2 := parI_at (L := L) (i := 2 * m + 2) (by omega)
 have d1 := decL_at (L := L) (i := 2 * m + 1) (by omega)
 have d2 := decL_at (L := L) (i := 2 * m + 2) (by omega)
 have a1 : (dat (decL L) (2 * m + 1)).1 = (tat L (2 * m + 1)).fst := by rw [d1]; rfl
 have a2 : (dat (decL L) (2 * m + 1)).2.1 = (tat L (2 * m + 1)).nxt := by rw [d1]; rfl
 have b1 : (dat (decL L) (2 * m + 2)).1 = (tat L (2 * m + 2)).fst := by rw [d2]; rfl
 have b2 : (dat (decL L) (2 * m + 2)).2.1 = (tat L (2 * m + 2)).nxt := by rw [d2]; rfl
 have a3 : (dat (decL L) (2 * m + 1)).2.2 = (tat L (2 * m + 1)).tog := by rw [d1]; rfl
 have b3 : (dat (decL L) (2 * m + 2)).2.2 = (tat L (2 * m + 2)).tog := by rw [d2]; rfl
 by_cases p1 : (tat L (2 * m + 1)).par = (tat L (2 * m + 2)).par
 ·by_cases p2 : (tat L (2 * m + 1)).par < 0
  ·refine ⟨fun h => absurd h (by unfold prB; simp; omega), fun _ => ?_⟩
   exact rnd_run 1000 [pk (bT_lss 3 (2 * (m : Int) + 1) (n : Int)), pk (sl_ix 62 55 3 ((decL L).map (rowD)) (2 * m + 1) (2 * (m : Int) + 1) (rowD (dat (decL L) (2 * m + 1))) (dat_row f1)), pk (b_add 3 (2 * (m : Int) + 1) 1 ⟨by omega, by omega⟩), pk (sl_ix 62 55 3 ((decL L).map (rowD)) (2 * m + 2) ((2 * (m : Int) + 1) + 1) (rowD (dat (decL L) (2 * m + 2))) (dat_row f2)), pk (sl_ix 22 3 1 ((parI L).map (rowZi)) (2 * m + 1) (2 * (m : Int) + 1) (rowZi (iat (parI L) (2 * m + 1))) (iat_row e1)), pk (b_add 3 (2 * (m : Int) + 1) 1 ⟨by omega, by omega⟩), pk (sl_ix 22 3 1 ((parI L).map (rowZi)) (2 * m + 2) ((2 * (m : Int) + 1) + 1) (rowZi (iat (parI L) (2 * m + 2))) (iat_row e2)), pk (bF_neq 3 (iat (parI L) (2 * m + 1)) (iat (parI L) (2 * m + 2))), pk (sl_ix 22 3 1 ((parI L).map (rowZi)) (2 * m + 1) (2 * (m : Int) + 1) (rowZi (iat (parI L) (2 * m + 1))) (iat_row e1)), pk (bT_lss 3 (iat (parI L) (2 * m + 1)) 0)] (by kernel_rfl)
  ·by_cases p3 : 2 * (m : Int) + 1 ≤ (tat L (2 * m + 1)).par
   ·refine ⟨fun h => absurd h (by unfold prB; simp; omega), fun _ => ?_⟩
    exact rnd_run 1000 [pk (bT_lss 3 (2 * (m : Int) + 1) (n : Int)), pk (sl_ix 62 55 3 ((decL L).map (rowD)) (2 * m + 1) (2 * (m : Int) + 1) (rowD (dat (decL L) (2 * m + 1))) (dat_row f1)), pk (b_add 3 (2 * (m : Int) + 1) 1 ⟨by omega, by omega⟩), pk (sl_ix 62 55 3 ((decL L).map (rowD)) (2 * m + 2) ((2 * (m : Int) + 1) + 1) (rowD (dat (decL L) (2 * m + 2))) (dat_row f2)), pk (sl_ix 22 3 1 ((parI L).map (rowZi)) (2 * m + 1) (2 * (m : Int) + 1) (rowZi (iat (parI L) (2 * m + 1))) (iat_row e1)), pk (b_add 3 (2 * (m : Int) + 1) 1 ⟨by omega, by omega⟩), pk (sl_ix 22 3 1 ((parI L).map (rowZi)) (2 * m + 2) ((2 * (m : Int) + 1) + 1) (rowZi (iat (parI L) (2 * m + 2))) (iat_row e2)), pk (bF_neq 3 (iat (parI L) (2 * m + 1)) (iat (parI L) (2 * m + 2))), pk (sl_ix 22 3 1 ((parI L).map (rowZi)) (2 * m + 1) (2 * (m : Int) + 1) (rowZi (iat (parI L) (2 * m + 1))) (iat_row e1)), pk (bF_lss 3 (iat (parI L) (2 * m + 1)) 0), pk (sl_ix 22 3 1 ((parI L).map (rowZi)) (2 * m + 1) (2 * (m : Int) + 1) (rowZi (iat (parI L) (2 * m + 1))) (iat_row e1)), pk (bT_geq 3 (iat (parI L) (2 * m + 1)) (2 * (m : Int) + 1))] (by kernel_rfl)
   ·have hpp : (tat L (2 * m + 1)).par = ((pp L m : Nat) : Int) := by unfold pp; omega
    have cp : pp L m < (clt L m).length := by rw [clt_len]; omega
    have bc := clt_le L m (pp L m)
    by_cases p4 : (tat L (2 * m + 1)).fst = (tat L (2 * m + 2)).fst
    ·by_cases p5 : (tat L (2 * m + 1)).nxt = (tat L (2 * m + 2)).nxt
     ·by_cases p6 : (tat L (2 * m + 1)).fst < 0
      ·refine ⟨fun h => absurd h (by unfold prB; simp; omega), fun _ => ?_⟩
       exact rnd_run 1000 [pk (bT_lss 3 (2 * (m : Int) + 1) (n : Int)), pk (sl_ix 62 55 3 ((decL L).map (rowD)) (2 * m + 1) (2 * (m : Int) + 1) (rowD (dat (decL L) (2 * m + 1))) (dat_row f1)), pk (b_add 3 (2 * (m : Int) + 1) 1 ⟨by omega, by omega⟩), pk (sl_ix 62 55 3 ((decL L).map (rowD)) (2 * m + 2) ((2 * (m : Int) + 1) + 1) (rowD (dat (decL L) (2 * m + 2))) (dat_row f2)), pk (sl_ix 22 3 1 ((parI L).map (rowZi)) (2 * m + 1) (2 * (m : Int) + 1) (rowZi (iat (parI L) (2 * m + 1))) (iat_row e1)), pk (b_add 3 (2 * (m : Int) + 1) 1 ⟨by omega, by omega⟩), pk (sl_ix 22 3 1 ((parI L).map (rowZi)) (2 * m + 2) ((2 * (m : Int) + 1) + 1) (rowZi (iat (parI L) (2 * m + 2))) (iat_row e2)), pk (bF_neq 3 (iat (parI L) (2 * m + 1)) (iat (parI L) (2 * m + 2))), pk (sl_ix 22 3 1 ((parI L).map (rowZi)) (2 * m + 1) (2 * (m : Int) + 1) (rowZi (iat (parI L) (2 * m + 1))) (iat_row e1)), pk (bF_lss 3 (iat (parI L) (2 * m + 1)) 0), pk (sl_ix 22 3 1 ((parI L).map (rowZi)) (2 * m + 1) (2 * (m : Int) + 1) (rowZi (iat (parI L) (2 * m + 1))) (iat_row e1)), pk (bF_geq 3 (iat (parI L) (2 * m + 1)) (2 * (m : Int) + 1)), pk (bF_neq 3 ((dat (decL L) (2 * m + 1)).1) ((dat (decL L) (2 * m + 2)).1)), pk (bF_neq 3 ((dat (decL L) (2 * m + 1)).2.1) ((dat (decL L) (2 * m + 2)).2.1)), pk (bT_lss 3 ((dat (decL L) (2 * m + 1)).1) 0)] (by kernel_rfl)
      ·by_cases p7 : (tat L (2 * m + 1)).nxt < 0
       ·refine ⟨fun h => absurd h (by unfold prB; simp; omega), fun _ => ?_⟩
        exact rnd_run 1000 [pk (bT_lss 3 (2 * (m : Int) + 1) (n : Int)), pk (sl_ix 62 55 3 ((decL L).map (rowD)) (2 * m + 1) (2 * (m : Int) + 1) (rowD (dat (decL L) (2 * m + 1))) (dat_row f1)), pk (b_add 3 (2 * (m : Int) + 1) 1 ⟨by omega, by omega⟩), pk (sl_ix 62 55 3 ((decL L).map (rowD)) (2 * m + 2) ((2 * (m : Int) + 1) + 1) (rowD (dat (decL L) (2 * m + 2))) (dat_row f2)), pk (sl_ix 22 3 1 ((parI L).map (rowZi)) (2 * m + 1) (2 * (m : Int) + 1) (rowZi (iat (parI L) (2 * m + 1))) (iat_row e1)), pk (b_add 3 (2 * (m : Int) + 1) 1 ⟨by omega, by omega⟩), pk (sl_ix 22 3 1 ((parI L).map (rowZi)) (2 * m + 2) ((2 * (m : Int) + 1) + 1) (rowZi (iat (parI L) (2 * m + 2))) (iat_row e2)), pk (bF_neq 3 (iat (parI L) (2 * m + 1)) (iat (parI L) (2 * m + 2))), pk (sl_ix 22 3 1 ((parI L).map (rowZi)) (2 * m + 1) (2 * (m : Int) + 1) (rowZi (iat (parI L) (2 * m + 1))) (iat_row e1)), pk (bF_lss 3 (iat (parI L) (2 * m + 1)) 0), pk (sl_ix 22 3 1 ((parI L).map (rowZi)) (2 * m + 1) (2 * (m : Int) + 1) (rowZi (iat (parI L) (2 * m + 1))) (iat_row e1)), pk (bF_geq 3 (iat (parI L) (2 * m + 1)) (2 * (m : Int) + 1)), pk (bF_neq 3 ((dat (decL L) (2 * m + 1)).1) ((dat (decL L) (2 * m + 2)).1)), pk (bF_neq 3 ((dat (decL L) (2 * m + 1)).2.1) ((dat (decL L) (2 * m + 2)).2.1)), pk (bF_lss 3 ((dat (decL L) (2 * m + 1)).1) 0), pk (bT_lss 3 ((dat (decL L) (2 * m + 1)).2.1) 0)] (by kernel_rfl)
       ·by_cases p8 : (tat L (2 * m + 1)).fst = (tat L (2 * m + 1)).nxt
        ·refine ⟨fun h => absurd h (by unfold prB; simp; omega), fun _ => ?_⟩
         exact rnd_run 1000 [pk (bT_lss 3 (2 * (m : Int) + 1) (n : Int)), pk (sl_ix 62 55 3 ((decL L).map (rowD)) (2 * m + 1) (2 * (m : Int) + 1) (rowD (dat (decL L) (2 * m + 1))) (dat_row f1)), pk (b_add 3 (2 * (m : Int) + 1) 1 ⟨by omega, by omega⟩), pk (sl_ix 62 55 3 ((decL L).map (rowD)) (2 * m + 2) ((2 * (m : Int) + 1) + 1) (rowD (dat (decL L) (2 * m + 2))) (dat_row f2)), pk (sl_ix 22 3 1 ((parI L).map (rowZi)) (2 * m + 1) (2 * (m : Int) + 1) (rowZi (iat (parI L) (2 * m + 1))) (iat_row e1)), pk (b_add 3 (2 * (m : Int) + 1) 1 ⟨by omega, by omega⟩), pk (sl_ix 22 3 1 ((parI L).map (rowZi)) (2 * m + 2) ((2 * (m : Int) + 1) + 1) (rowZi (iat (parI L) (2 * m + 2))) (iat_row e2)), pk (bF_neq 3 (iat (parI L) (2 * m + 1)) (iat (parI L) (2 * m + 2))), pk (sl_ix 22 3 1 ((parI L).map (rowZi)) (2 * m + 1) (2 * (m : Int) + 1) (rowZi (iat (parI L) (2 * m + 1))) (iat_row e1)), pk (bF_lss 3 (iat (parI L) (2 * m + 1)) 0), pk (sl_ix 22 3 1 ((parI L).map (rowZi)) (2 * m + 1) (2 * (m : Int) + 1) (rowZi (iat (parI L) (2 * m + 1))) (iat_row e1)), pk (bF_geq 3 (iat (parI L) (2 * m + 1)) (2 * (m : Int) + 1)), pk (bF_neq 3 ((dat (decL L) (2 * m + 1)).1) ((dat (decL L) (2 * m + 2)).1)), pk (bF_neq 3 ((dat (decL L) (2 * m + 1)).2.1) ((dat (decL L) (2 * m + 2)).2.1)), pk (bF_lss 3 ((dat (decL L) (2 * m + 1)).1) 0), pk (bF_lss 3 ((dat (decL L) (2 * m + 1)).2.1) 0), pk (bT_eql 3 ((dat (decL L) (2 * m + 1)).1) ((dat (decL L) (2 * m + 1)).2.1))] (by kernel_rfl)
        ·cases p9 : (tat L (2 * m + 1)).tog with
         | false =>
          have ta := a3.trans p9
          refine ⟨fun h => absurd h (by unfold prB dcn; simp [p9]), fun _ => ?_⟩
          exact rnd_run 1000 [pk (bT_lss 3 (2 * (m : Int) + 1) (n : Int)), pk (sl_ix 62 55 3 ((decL L).map (rowD)) (2 * m + 1) (2 * (m : Int) + 1) ([.lit (.int .i64 ((dat (decL L) (2 * m + 1)).1)), .lit (.int .i64 ((dat (decL L) (2 * m + 1)).2.1)), .lit (.bool false)]) (drow f1 ta)), pk (b_add 3 (2 * (m : Int) + 1) 1 ⟨by omega, by omega⟩), pk (sl_ix 62 55 3 ((decL L).map (rowD)) (2 * m + 2) ((2 * (m : Int) + 1) + 1) (rowD (dat (decL L) (2 * m + 2))) (dat_row f2)), pk (sl_ix 22 3 1 ((parI L).map (rowZi)) (2 * m + 1) (2 * (m : Int) + 1) (rowZi (iat (parI L) (2 * m + 1))) (iat_row e1)), pk (b_add 3 (2 * (m : Int) + 1) 1 ⟨by omega, by omega⟩), pk (sl_ix 22 3 1 ((parI L).map (rowZi)) (2 * m + 2) ((2 * (m : Int) + 1) + 1) (rowZi (iat (parI L) (2 * m + 2))) (iat_row e2)), pk (bF_neq 3 (iat (parI L) (2 * m + 1)) (iat (parI L) (2 * m + 2))), pk (sl_ix 22 3 1 ((parI L).map (rowZi)) (2 * m + 1) (2 * (m : Int) + 1) (rowZi (iat (parI L) (2 * m + 1))) (iat_row e1)), pk (bF_lss 3 (iat (parI L) (2 * m + 1)) 0), pk (sl_ix 22 3 1 ((parI L).map (rowZi)) (2 * m + 1) (2 * (m : Int) + 1) (rowZi (iat (parI L) (2 * m + 1))) (iat_row e1)), pk (bF_geq 3 (iat (parI L) (2 * m + 1)) (2 * (m : Int) + 1)), pk (bF_neq 3 ((dat (decL L) (2 * m + 1)).1) ((dat (decL L) (2 * m + 2)).1)), pk (bF_neq 3 ((dat (decL L) (2 * m + 1)).2.1) ((dat (decL L) (2 * m + 2)).2.1)), pk (bF_lss 3 ((dat (decL L) (2 * m + 1)).1) 0), pk (bF_lss 3 ((dat (decL L) (2 * m + 1)).2.1) 0), pk (bF_eql 3 ((dat (decL L) (2 * m + 1)).1) ((dat (decL L) (2 * m + 1)).2.1)), pa] (by kernel_rfl)
         | true =>
          have ta := a3.trans p9
          cases p10 : (tat L (2 * m + 2)).tog with
          | true =>
           have tb := b3.trans p10
           refine ⟨fun h => absurd h (by unfold prB dcn; simp [p10]), fun _ => ?_⟩
           exact rnd_run 1000 [pk (bT_lss 3 (2 * (m : Int) + 1) (n : Int)), pk (sl_ix 62 55 3 ((decL L).map (rowD)) (2 * m + 1) (2 * (m : Int) + 1) ([.lit (.int .i64 ((dat (decL L) (2 * m + 1)).1)), .lit (.int .i64 ((dat (decL L) (2 * m + 1)).2.1)), .lit (.bool true)]) (drow f1 ta)), pk (b_add 3 (2 * (m : Int) + 1) 1 ⟨by omega, by omega⟩), pk (sl_ix 62 55 3 ((decL L).map (rowD)) (2 * m + 2) ((2 * (m : Int) + 1) + 1) ([.lit (.int .i64 ((dat (decL L) (2 * m + 2)).1)), .lit (.int .i64 ((dat (decL L) (2 * m + 2)).2.1)), .lit (.bool true)]) (drow f2 tb)), pk (sl_ix 22 3 1 ((parI L).map (rowZi)) (2 * m + 1) (2 * (m : Int) + 1) (rowZi (iat (parI L) (2 * m + 1))) (iat_row e1)), pk (b_add 3 (2 * (m : Int) + 1) 1 ⟨by omega, by omega⟩), pk (sl_ix 22 3 1 ((parI L).map (rowZi)) (2 * m + 2) ((2 * (m : Int) + 1) + 1) (rowZi (iat (parI L) (2 * m + 2))) (iat_row e2)), pk (bF_neq 3 (iat (parI L) (2 * m + 1)) (iat (parI L) (2 * m + 2))), pk (sl_ix 22 3 1 ((parI L).map (rowZi)) (2 * m + 1) (2 * (m : Int) + 1) (rowZi (iat (parI L) (2 * m + 1))) (iat_row e1)), pk (bF_lss 3 (iat (parI L) (2 * m + 1)) 0), pk (sl_ix 22 3 1 ((parI L).map (rowZi)) (2 * m + 1) (2 * (m : Int) + 1) (rowZi (iat (parI L) (2 * m + 1))) (iat_row e1)), pk (bF_geq 3 (iat (parI L) (2 * m + 1)) (2 * (m : Int) + 1)), pk (bF_neq 3 ((dat (decL L) (2 * m + 1)).1) ((dat (decL L) (2 * m + 2)).1)), pk (bF_neq 3 ((dat (decL L) (2 * m + 1)).2.1) ((dat (decL L) (2 * m + 2)).2.1)), pk (bF_lss 3 ((dat (decL L) (2 * m + 1)).1) 0), pk (bF_lss 3 ((dat (decL L) (2 * m + 1)).2.1) 0), pk (bF_eql 3 ((dat (decL L) (2 * m + 1)).1) ((dat (decL L) (2 * m + 1)).2.1)), pa] (by kernel_rfl)
          | false =>
           have tb := b3.trans p10
           refine ⟨fun _ => ?_, fun h => absurd h (by unfold prB dcn; simp [p9, p10, ← p1, ← p4, ← p5]; omega)⟩
           have r : Rnd Tryz.prog I 192 (loopC Tryz.prog 55 0) (qast L n (clt L m) (2 * (m : Int) + 1)) .normal (qast L n (clt L (m + 1)) (2 * (m : Int) + 1 + 2)) := by
            have e : clt L (m + 1) = (clt L m).set (pp L m) (iat (clt L m) (pp L m) + 2) := rfl
            rw [e]
            exact Rnd.nam [] (show Rnd _ _ _ _ _ _ ⟨[(0, .cv (.one (.b (.it (slI 1 ((parI L).map (rowZi))))))), (1, .cv (.one (.b (.it (slI 3 ((decL L).map (rowD))))))), (2, .cv (.one (.b (.it (slI 1 ((spB' L).map (rowBo))))))), (7, .cv (.one (.b (.lit (.int .i64 (n : Int)))))), (8, .cv (.one (.sl 25))), (9, .cv (.one (.b (.lit (.int .i64 ((2 * (m : Int) + 1) + 2))))))], [(25, some ⟨3, some (1, n), flatR (((clt L m).set (pp L m) ((iat (clt L m) (pp L m)) + 2)).map rowZi)⟩)], 144⟩ from rnd_run 1000 [pk (bT_lss 3 (2 * (m : Int) + 1) (n : Int)), pk (sl_ix 62 55 3 ((decL L).map (rowD)) (2 * m + 1) (2 * (m : Int) + 1) ([.lit (.int .i64 ((dat (decL L) (2 * m + 1)).1)), .lit (.int .i64 ((dat (decL L) (2 * m + 1)).2.1)), .lit (.bool true)]) (drow f1 ta)), pk (b_add 3 (2 * (m : Int) + 1) 1 ⟨by omega, by omega⟩), pk (sl_ix 62 55 3 ((decL L).map (rowD)) (2 * m + 2) ((2 * (m : Int) + 1) + 1) ([.lit (.int .i64 ((dat (decL L) (2 * m + 2)).1)), .lit (.int .i64 ((dat (decL L) (2 * m + 2)).2.1)), .lit (.bool false)]) (drow f2 tb)), pk (sl_ix 22 3 1 ((parI L).map (rowZi)) (2 * m + 1) (2 * (m : Int) + 1) (rowZi (iat (parI L) (2 * m + 1))) (iat_row e1)), pk (b_add 3 (2 * (m : Int) + 1) 1 ⟨by omega, by omega⟩), pk (sl_ix 22 3 1 ((parI L).map (rowZi)) (2 * m + 2) ((2 * (m : Int) + 1) + 1) (rowZi (iat (parI L) (2 * m + 2))) (iat_row e2)), pk (bF_neq 3 (iat (parI L) (2 * m + 1)) (iat (parI L) (2 * m + 2))), pk (sl_ix 22 3 1 ((parI L).map (rowZi)) (2 * m + 1) (2 * (m : Int) + 1) (rowZi (iat (parI L) (2 * m + 1))) (iat_row e1)), pk (bF_lss 3 (iat (parI L) (2 * m + 1)) 0), pk (sl_ix 22 3 1 ((parI L).map (rowZi)) (2 * m + 1) (2 * (m : Int) + 1) (rowZi (iat (parI L) (2 * m + 1))) (iat_row e1)), pk (bF_geq 3 (iat (parI L) (2 * m + 1)) (2 * (m : Int) + 1)), pk (bF_neq 3 ((dat (decL L) (2 * m + 1)).1) ((dat (decL L) (2 * m + 2)).1)), pk (bF_neq 3 ((dat (decL L) (2 * m + 1)).2.1) ((dat (decL L) (2 * m + 2)).2.1)), pk (bF_lss 3 ((dat (decL L) (2 * m + 1)).1) 0), pk (bF_lss 3 ((dat (decL L) (2 * m + 1)).2.1) 0), pk (bF_eql 3 ((dat (decL L) (2 * m + 1)).1) ((dat (decL L) (2 * m + 1)).2.1)), pa, pk (sl_ix 22 3 1 ((parI L).map (rowZi)) (2 * m + 1) (2 * (m : Int) + 1) (rowZi (iat (parI L) (2 * m + 1))) (iat_row e1)), ⟨.ix (iat (parI L) (2 * m + 1)) (pp L m) n, ⟨by omega, by omega⟩⟩, ⟨.part (flatR ((clt L m).map rowZi)) ((pp L m) * 1) 1 [.b (.lit (.int .i64 (iat (clt L m) (pp L m))))], (sub_int (D := clt L m) cp)⟩, pk (b_add 3 (iat (clt L m) (pp L m)) 2 ⟨by omega, by omega⟩), ⟨.ix (iat (parI L) (2 * m + 1)) (pp L m) n, ⟨by omega, by omega⟩⟩, ⟨.upd (flatR ((clt L m).map rowZi)) ((pp L m) * 1) [.b (.lit (.int .i64 ((iat (clt L m) (pp L m)) + 2)))] (flatR (((clt L m).set (pp L m) ((iat (clt L m) (pp L m)) + 2)).map rowZi)), (upd_int (D := clt L m) cp ((iat (clt L m) (pp L m)) + 2))⟩, pk (b_add 3 (2 * (m : Int) + 1) 2 ⟨by omega, by omega⟩)] (by kernel_rfl)) (t := ⟨[(0, .cv (.one (.b (.it (slI 1 ((parI L).map (rowZi))))))), (1, .cv (.one (.b (.it (slI 3 ((decL L).map (rowD))))))), (2, .cv (.one (.b (.it (slI 1 ((spB' L).map (rowBo))))))), (7, .cv (.one (.b (.lit (.int .i64 (n : Int)))))), (8, .cv (.one (.sl 25))), (9, .cv (.one (.b (.lit (.int .i64 ((2 * (m : Int) + 1) + 2))))))], [(25, some ⟨3, some (1, n), flatR (((clt L m).set (pp L m) ((iat (clt L m) (pp L m)) + 2)).map rowZi)⟩)], 50⟩) ⟨rfl, TVle.refl, rfl, TVle.refl, rfl, TVle.refl, rfl, TVle.refl, rfl, TVle.refl, rfl, TVle.refl, trivial⟩ ⟨rfl, rfl, rfl, ILe.refl, trivial⟩
           rw [show 2 * (m : Int) + 1 + 2 = 2 * ((m + 1 : Nat) : Int) + 1 by omega] at r
           exact r
     ·refine ⟨fun h => absurd h (by unfold prB dcn; simp; omega), fun _ => ?_⟩
      exact rnd_run 1000 [pk (bT_lss 3 (2 * (m : Int) + 1) (n : Int)), pk (sl_ix 62 55 3 ((decL L).map (rowD)) (2 * m + 1) (2 * (m : Int) + 1) (rowD (dat (decL L) (2 * m + 1))) (dat_row f1)), pk (b_add 3 (2 * (m : Int) + 1) 1 ⟨by omega, by omega⟩), pk (sl_ix 62 55 3 ((decL L).map (rowD)) (2 * m + 2) ((2 * (m : Int) + 1) + 1) (rowD (dat (decL L) (2 * m + 2))) (dat_row f2)), pk (sl_ix 22 3 1 ((parI L).map (rowZi)) (2 * m + 1) (2 * (m : Int) + 1) (rowZi (iat (parI L) (2 * m + 1))) (iat_row e1)), pk (b_add 3 (2 * (m : Int) + 1) 1 ⟨by omega, by omega⟩), pk (sl_ix 22 3 1 ((parI L).map (rowZi)) (2 * m + 2) ((2 * (m : Int) + 1) + 1) (rowZi (iat (parI L) (2 * m + 2))) (iat_row e2)), pk (bF_neq 3 (iat (parI L) (2 * m + 1)) (iat (parI L) (2 * m + 2))), pk (sl_ix 22 3 1 ((parI L).map (rowZi)) (2 * m + 1) (2 * (m : Int) + 1) (rowZi (iat (parI L) (2 * m + 1))) (iat_row e1)), pk (bF_lss 3 (iat (parI L) (2 * m + 1)) 0), pk (sl_ix 22 3 1 ((parI L).map (rowZi)) (2 * m + 1) (2 * (m : Int) + 1) (rowZi (iat (parI L) (2 * m + 1))) (iat_row e1)), pk (bF_geq 3 (iat (parI L) (2 * m + 1)) (2 * (m : Int) + 1)), pk (bF_neq 3 ((dat (decL L) (2 * m + 1)).1) ((dat (decL L) (2 * m + 2)).1)), pk (bT_neq 3 ((dat (decL L) (2 * m + 1)).2.1) ((dat (decL L) (2 * m + 2)).2.1))] (by kernel_rfl)
    ·refine ⟨fun h => absurd h (by unfold prB dcn; simp; omega), fun _ => ?_⟩
     exact rnd_run 1000 [pk (bT_lss 3 (2 * (m : Int) + 1) (n : Int)), pk (sl_ix 62 55 3 ((decL L).map (rowD)) (2 * m + 1) (2 * (m : Int) + 1) (rowD (dat (decL L) (2 * m + 1))) (dat_row f1)), pk (b_add 3 (2 * (m : Int) + 1) 1 ⟨by omega, by omega⟩), pk (sl_ix 62 55 3 ((decL L).map (rowD)) (2 * m + 2) ((2 * (m : Int) + 1) + 1) (rowD (dat (decL L) (2 * m + 2))) (dat_row f2)), pk (sl_ix 22 3 1 ((parI L).map (rowZi)) (2 * m + 1) (2 * (m : Int) + 1) (rowZi (iat (parI L) (2 * m + 1))) (iat_row e1)), pk (b_add 3 (2 * (m : Int) + 1) 1 ⟨by omega, by omega⟩), pk (sl_ix 22 3 1 ((parI L).map (rowZi)) (2 * m + 2) ((2 * (m : Int) + 1) + 1) (rowZi (iat (parI L) (2 * m + 2))) (iat_row e2)), pk (bF_neq 3 (iat (parI L) (2 * m + 1)) (iat (parI L) (2 * m + 2))), pk (sl_ix 22 3 1 ((parI L).map (rowZi)) (2 * m + 1) (2 * (m : Int) + 1) (rowZi (iat (parI L) (2 * m + 1))) (iat_row e1)), pk (bF_lss 3 (iat (parI L) (2 * m + 1)) 0), pk (sl_ix 22 3 1 ((parI L).map (rowZi)) (2 * m + 1) (2 * (m : Int) + 1) (rowZi (iat (parI L) (2 * m + 1))) (iat_row e1)), pk (bF_geq 3 (iat (parI L) (2 * m + 1)) (2 * (m : Int) + 1)), pk (bT_neq 3 ((dat (decL L) (2 * m + 1)).1) ((dat (decL L) (2 * m + 2)).1))] (by kernel_rfl)
 ·refine ⟨fun h => absurd h (by unfold prB; simp [p1]), fun _ => ?_⟩
  exact rnd_run 1000 [pk (bT_lss 3 (2 * (m : Int) + 1) (n : Int)), pk (sl_ix 62 55 3 ((decL L).map (rowD)) (2 * m + 1) (2 * (m : Int) + 1) (rowD (dat (decL L) (2 * m + 1))) (dat_row f1)), pk (b_add 3 (2 * (m : Int) + 1) 1 ⟨by omega, by omega⟩), pk (sl_ix 62 55 3 ((decL L).map (rowD)) (2 * m + 2) ((2 * (m : Int) + 1) + 1) (rowD (dat (decL L) (2 * m + 2))) (dat_row f2)), pk (sl_ix 22 3 1 ((parI L).map (rowZi)) (2 * m + 1) (2 * (m : Int) + 1) (rowZi (iat (parI L) (2 * m + 1))) (iat_row e1)), pk (b_add 3 (2 * (m : Int) + 1) 1 ⟨by omega, by omega⟩), pk (sl_ix 22 3 1 ((parI L).map (rowZi)) (2 * m + 2) ((2 * (m : Int) + 1) + 1) (rowZi (iat (parI L) (2 * m + 2))) (iat_row e2)), pk (bT_neq 3 (iat (parI L) (2 * m + 1)) (iat (parI L) (2 * m + 2)))] (by kernel_rfl)
end
end Go.Proofs.YtflajoflpkboiaaGreat

/- The reference's Pairs, all of it. -/
namespace Go.Proofs.YtflajoflpkboiaaGreat
open Go Go.RowKit
set_option linter.unusedVariables false
set_option linter.unusedSimpArgs false

def twin (D : List De) (k j : Nat) : Bool := decide ((dat D k).1 = (dat D j).1) && decide ((dat D k).2.1 = (dat D j).2.1)
def inC (D : List De) (k j : Nat) : Int := if twin D k j then 1 else 0
def miC (D : List De) (k : Nat) : Int := findc (inC D k) k 0
def cpC (L : List Nd) (i : Nat) : Int := if 2 < iat (clt L (L.length / 2)) i then 1 else if decide ((tat L i).st = 1) = decide (iat (clt L (L.length / 2)) i = 2) then 0 else 1
def ouC (L : List Nd) (i : Nat) : Int := if cpC L i ≠ 0 then cpC L i else if 32 < (pathD L i).length then 1 else findc (miC (pathD L i)) (pathD L i).length 0
section
variable {I : WInv} {c c' : Bool}

def inst (L : List Nd) (n : Nat) (i : Nat) (D : List De) (k : Nat) (j : Int) : Go.Proofs.YtflajoflpkboiaaGreat.St := ⟨[(0, .cv (.one (.b (.it (slI 1 ((parI L).map (rowZi))))))), (1, .cv (.one (.b (.it (slI 3 ((decL L).map (rowD))))))), (2, .cv (.one (.b (.it (slI 1 ((spB' L).map (rowBo))))))), (7, .cv (.one (.b (.lit (.int .i64 (n : Int)))))), (8, .cv (.one (.b (.it (slI 1 ((clt L (L.length / 2)).map (rowZi))))))), (12, .cv (.one (.b (.lit (.int .i64 (i : Int)))))), (13, .cv (.one (.b (.it (slI 3 ((D).map (rowD))))))), (14, .cv (.one (.b (.lit (.int .i64 (k : Int)))))), (15, .cv (.one (.b (.lit (.int .i64 j)))))], [], 130⟩
def inend (L : List Nd) (n : Nat) (i : Nat) (D : List De) (k : Nat) : Go.Proofs.YtflajoflpkboiaaGreat.St := ⟨[(0, .cv (.one (.b (.it (slI 1 ((parI L).map (rowZi))))))), (1, .cv (.one (.b (.it (slI 3 ((decL L).map (rowD))))))), (2, .cv (.one (.b (.it (slI 1 ((spB' L).map (rowBo))))))), (7, .cv (.one (.b (.lit (.int .i64 (n : Int)))))), (8, .cv (.one (.b (.it (slI 1 ((clt L (L.length / 2)).map (rowZi))))))), (12, .cv (.one (.b (.lit (.int .i64 (i : Int)))))), (13, .cv (.one (.b (.it (slI 3 ((D).map (rowD))))))), (14, .cv (.one (.b (.lit (.int .i64 (k : Int))))))], [], 130⟩
theorem inC_one {D : List De} {k j : Nat} (h : inC D k j ≠ 0) : twin D k j = true := by
 unfold inC at h
 cases hs : twin D k j with
 | true => rfl
 | false => rw [hs] at h; exact absurd rfl h
theorem inC_zero {D : List De} {k j : Nat} (h : inC D k j = 0) : twin D k j = false := by
 unfold inC at h
 cases hs : twin D k j with
 | false => rfl
 | true => rw [hs] at h; exact absurd h (by decide)
theorem in_loop (L : List Nd) (n : Nat) (i : Nat) (D : List De) (k : Nat) (hk : k < D.length) (hl : D.length ≤ 100000) :
  (miC D k = 0 → LoopTr Tryz.prog I 192 (loopC Tryz.prog 55 3) (inst L n i D k ((0 : Nat) : Int)) (.exit 6) (inend L n i D k)) ∧ (miC D k ≠ 0 → LoopTr Tryz.prog I 192 (loopC Tryz.prog 55 3) (inst L n i D k ((0 : Nat) : Int)) .ret (qbad 130)) := by
 refine loop_find (inC D k) k (fun j => inst L n i D k (j : Int)) (fun _ => qbad 130) (fun j hj hc => ?_) ?_ (fun j hj hc => ?_)
 ·have hs := inC_zero hc
  unfold twin at hs
  have hj' : j < D.length := by omega
  by_cases h1 : (dat D k).1 = (dat D j).1
  ·by_cases h2 : (dat D k).2.1 = (dat D j).2.1
   ·rw [decide_eq_true h1, decide_eq_true h2] at hs; cases hs
   ·have hj := hj'
    exact rnd_run 1000 [pk (bT_lss 3 (j : Int) (k : Int)), pk (sl_ix 62 55 3 ((D).map (rowD)) k (k : Int) (rowD (dat D k)) (dat_row hk)), pk (sl_ix 62 55 3 ((D).map (rowD)) j (j : Int) (rowD (dat D j)) (dat_row hj)), pk (b_eql 3 ((dat D k).1) ((dat D j).1) true (decide_eq_true h1)), pk (sl_ix 62 55 3 ((D).map (rowD)) k (k : Int) (rowD (dat D k)) (dat_row hk)), pk (sl_ix 62 55 3 ((D).map (rowD)) j (j : Int) (rowD (dat D j)) (dat_row hj)), pk (b_eql 3 ((dat D k).2.1) ((dat D j).2.1) false (decide_eq_false h2)), pk (b_add 3 (j : Int) 1 ⟨by omega, by omega⟩)] (by kernel_rfl)
  ·have hj := hj'
   exact rnd_run 1000 [pk (bT_lss 3 (j : Int) (k : Int)), pk (sl_ix 62 55 3 ((D).map (rowD)) k (k : Int) (rowD (dat D k)) (dat_row hk)), pk (sl_ix 62 55 3 ((D).map (rowD)) j (j : Int) (rowD (dat D j)) (dat_row hj)), pk (b_eql 3 ((dat D k).1) ((dat D j).1) false (decide_eq_false h1)), pk (b_add 3 (j : Int) 1 ⟨by omega, by omega⟩)] (by kernel_rfl)
 ·exact rnd_run 1000 [pk (bF_lss 3 (k : Int) (k : Int))] (by kernel_rfl)
 ·have hs := inC_one hc
  unfold twin at hs
  rw [Bool.and_eq_true, decide_eq_true_eq, decide_eq_true_eq] at hs
  obtain ⟨h1, h2⟩ := hs
  have hj' : j < D.length := by omega
  have hj := hj'
  exact rnd_run 1000 [pk (bT_lss 3 (j : Int) (k : Int)), pk (sl_ix 62 55 3 ((D).map (rowD)) k (k : Int) (rowD (dat D k)) (dat_row hk)), pk (sl_ix 62 55 3 ((D).map (rowD)) j (j : Int) (rowD (dat D j)) (dat_row hj)), pk (b_eql 3 ((dat D k).1) ((dat D j).1) true (decide_eq_true h1)), pk (sl_ix 62 55 3 ((D).map (rowD)) k (k : Int) (rowD (dat D k)) (dat_row hk)), pk (sl_ix 62 55 3 ((D).map (rowD)) j (j : Int) (rowD (dat D j)) (dat_row hj)), pk (b_eql 3 ((dat D k).2.1) ((dat D j).2.1) true (decide_eq_true h2))] (by kernel_rfl)

def mist (L : List Nd) (n : Nat) (i : Nat) (D : List De) (k : Int) : Go.Proofs.YtflajoflpkboiaaGreat.St := ⟨[(0, .cv (.one (.b (.it (slI 1 ((parI L).map (rowZi))))))), (1, .cv (.one (.b (.it (slI 3 ((decL L).map (rowD))))))), (2, .cv (.one (.b (.it (slI 1 ((spB' L).map (rowBo))))))), (7, .cv (.one (.b (.lit (.int .i64 (n : Int)))))), (8, .cv (.one (.b (.it (slI 1 ((clt L (L.length / 2)).map (rowZi))))))), (12, .cv (.one (.b (.lit (.int .i64 (i : Int)))))), (13, .cv (.one (.b (.it (slI 3 ((D).map (rowD))))))), (14, .cv (.one (.b (.lit (.int .i64 k)))))], [], 90⟩
def miend (L : List Nd) (n : Nat) (i : Nat) (D : List De) : Go.Proofs.YtflajoflpkboiaaGreat.St := ⟨[(0, .cv (.one (.b (.it (slI 1 ((parI L).map (rowZi))))))), (1, .cv (.one (.b (.it (slI 3 ((decL L).map (rowD))))))), (2, .cv (.one (.b (.it (slI 1 ((spB' L).map (rowBo))))))), (7, .cv (.one (.b (.lit (.int .i64 (n : Int)))))), (8, .cv (.one (.b (.it (slI 1 ((clt L (L.length / 2)).map (rowZi))))))), (12, .cv (.one (.b (.lit (.int .i64 (i : Int)))))), (13, .cv (.one (.b (.it (slI 3 ((D).map (rowD)))))))], [], 90⟩
theorem mi_loop (L : List Nd) (n : Nat) (i : Nat) (D : List De) (hl : D.length ≤ 100000) :
  (findc (miC D) D.length 0 = 0 → LoopTr Tryz.prog I 192 (loopC Tryz.prog 55 2) (mist L n i D ((0 : Nat) : Int)) (.exit 4) (miend L n i D)) ∧ (findc (miC D) D.length 0 ≠ 0 → LoopTr Tryz.prog I 192 (loopC Tryz.prog 55 2) (mist L n i D ((0 : Nat) : Int)) .ret (qbad 130)) := by
 refine loop_find (miC D) D.length (fun k => mist L n i D (k : Int)) (fun _ => qbad 130) (fun k hk hc => ?_) ?_ (fun k hk hc => ?_)
 ·have lo := (in_loop (I := I) L n i D k hk hl).1 hc
  exact rnd_run 1000 [pk (sl_ln 62 55 3 3 ((D).map (rowD)) ((D).length : Int)), pk (bT_lss 3 (k : Int) ((D).length : Int)), pl (lo), pk (b_add 3 (k : Int) 1 ⟨by omega, by omega⟩)] (by kernel_rfl)
 ·exact rnd_run 1000 [pk (sl_ln 62 55 3 3 ((D).map (rowD)) ((D).length : Int)), pk (bF_lss 3 (D.length : Int) ((D).length : Int))] (by kernel_rfl)
 ·have lo := (in_loop (I := I) L n i D k hk hl).2 hc
  exact rnd_run 1000 [pk (sl_ln 62 55 3 3 ((D).map (rowD)) ((D).length : Int)), pk (bT_lss 3 (k : Int) ((D).length : Int)), pl (lo)] (by kernel_rfl)

def oust (L : List Nd) (n : Nat) (i : Int) : Go.Proofs.YtflajoflpkboiaaGreat.St := ⟨[(0, .cv (.one (.b (.it (slI 1 ((parI L).map (rowZi))))))), (1, .cv (.one (.b (.it (slI 3 ((decL L).map (rowD))))))), (2, .cv (.one (.b (.it (slI 1 ((spB' L).map (rowBo))))))), (7, .cv (.one (.b (.lit (.int .i64 (n : Int)))))), (8, .cv (.one (.b (.it (slI 1 ((clt L (L.length / 2)).map (rowZi))))))), (12, .cv (.one (.b (.lit (.int .i64 i)))))], [], 50⟩
theorem ou_loop (L : List Nd) (n : Nat) (hn : L.length = n) (hl : n ≤ 2002) (hD : Dn L (L.length - 1)) :
  (findc (ouC L) n 0 = 0 → LoopTr Tryz.prog I 192 (loopC Tryz.prog 55 1) (oust L n ((0 : Nat) : Int)) (.exit 2) ⟨[], [], 50⟩) ∧ (findc (ouC L) n 0 ≠ 0 → LoopTr Tryz.prog I 192 (loopC Tryz.prog 55 1) (oust L n ((0 : Nat) : Int)) .ret (qbad 130)) := by
 have pre : ∀ i, i < n → Sp Tryz.prog I 44 [parT L, decT L, ci (i : Int)] (tit (deI (pathD L i))) := fun i hi => rpath_sp L (by omega) i (by omega) fun x h0 hx => hD x h0 (by omega)
 have plen : ∀ i, (pathD L i).length ≤ i := pathD_len L
 refine loop_find (ouC L) n (fun i => oust L n (i : Int)) (fun _ => qbad 130) (fun i hi hc => ?_) ?_ (fun i hi hc => ?_)
 ·have ec : i < (clt L (L.length / 2)).length := by rw [clt_len]; omega
  have es : i < (spB' L).length := by rw [spB'_len]; omega
  have hp := pre i hi
  have hlen := plen i
  unfold ouC at hc
  by_cases k0 : cpC L i = 0
  ·rw [if_neg (fun h => h k0)] at hc
   by_cases k3 : 32 < (pathD L i).length
   ·rw [if_pos k3] at hc; omega
   ·rw [if_neg k3] at hc
    have lo := (mi_loop (I := I) L n i (pathD L i) (by omega)).1 hc
    unfold cpC at k0
    generalize pathD L i = D at *
    by_cases k1 : 2 < iat (clt L (L.length / 2)) i
    ·rw [if_pos k1] at k0; omega
    ·rw [if_neg k1] at k0
     by_cases hc : iat (clt L (L.length / 2)) i = 2
     ·rw [decide_eq_true hc] at k0
      cases hs : decide ((tat L i).st = 1) with
      | true =>
       have hst := (spB'_at (L := L) (i := i) (by omega)).trans hs
       exact rnd_run 1000 [pk (bT_lss 3 (i : Int) (n : Int)), pk (sl_ix 22 3 1 ((clt L (L.length / 2)).map (rowZi)) i (i : Int) (rowZi (iat (clt L (L.length / 2)) i)) (iat_row ec)), pk (bF_gtr 3 (iat (clt L (L.length / 2)) i) 2), pk (sl_ix 72 4 1 ((spB' L).map (rowBo)) i (i : Int) ([.lit (.bool true)]) (brow es hst)), pk (sl_ix 22 3 1 ((clt L (L.length / 2)).map (rowZi)) i (i : Int) (rowZi (iat (clt L (L.length / 2)) i)) (iat_row ec)), pk (b_eql 3 (iat (clt L (L.length / 2)) i) 2 true (decide_eq_true hc)), pa, po (hp), pk (sl_ln 62 55 3 3 ((D).map (rowD)) ((D).length : Int)), pk (bF_gtr 3 ((D).length : Int) 32), pl (lo), pk (b_add 3 (i : Int) 1 ⟨by omega, by omega⟩)] (by kernel_rfl)
      | false => rw [hs] at k0; simp at k0
     ·rw [decide_eq_false hc] at k0
      cases hs : decide ((tat L i).st = 1) with
      | true => rw [hs] at k0; simp at k0
      | false =>
       have hst := (spB'_at (L := L) (i := i) (by omega)).trans hs
       exact rnd_run 1000 [pk (bT_lss 3 (i : Int) (n : Int)), pk (sl_ix 22 3 1 ((clt L (L.length / 2)).map (rowZi)) i (i : Int) (rowZi (iat (clt L (L.length / 2)) i)) (iat_row ec)), pk (bF_gtr 3 (iat (clt L (L.length / 2)) i) 2), pk (sl_ix 72 4 1 ((spB' L).map (rowBo)) i (i : Int) ([.lit (.bool false)]) (brow es hst)), pk (sl_ix 22 3 1 ((clt L (L.length / 2)).map (rowZi)) i (i : Int) (rowZi (iat (clt L (L.length / 2)) i)) (iat_row ec)), pk (b_eql 3 (iat (clt L (L.length / 2)) i) 2 false (decide_eq_false hc)), pa, po (hp), pk (sl_ln 62 55 3 3 ((D).map (rowD)) ((D).length : Int)), pk (bF_gtr 3 ((D).length : Int) 32), pl (lo), pk (b_add 3 (i : Int) 1 ⟨by omega, by omega⟩)] (by kernel_rfl)
  ·rw [if_pos k0] at hc; exact absurd hc k0
 ·exact rnd_run 1000 [pk (bF_lss 3 (n : Int) (n : Int))] (by kernel_rfl)
 ·have ec : i < (clt L (L.length / 2)).length := by rw [clt_len]; omega
  have es : i < (spB' L).length := by rw [spB'_len]; omega
  have hp := pre i hi
  have hlen := plen i
  unfold ouC at hc
  have lm := mi_loop (I := I) L n i (pathD L i) (by omega)
  generalize pathD L i = D at *
  by_cases k1 : 2 < iat (clt L (L.length / 2)) i
  ·exact rnd_run 1000 [pk (bT_lss 3 (i : Int) (n : Int)), pk (sl_ix 22 3 1 ((clt L (L.length / 2)).map (rowZi)) i (i : Int) (rowZi (iat (clt L (L.length / 2)) i)) (iat_row ec)), pk (bT_gtr 3 (iat (clt L (L.length / 2)) i) 2)] (by kernel_rfl)
  ·have kc : cpC L i = if decide ((tat L i).st = 1) = decide (iat (clt L (L.length / 2)) i = 2) then 0 else 1 := by unfold cpC; rw [if_neg k1]
   rw [kc] at hc
   by_cases hc2 : iat (clt L (L.length / 2)) i = 2
   ·rw [decide_eq_true hc2] at hc
    have hcc := hc
    cases hs : decide ((tat L i).st = 1) with
    | true =>
     have hst := (spB'_at (L := L) (i := i) (by omega)).trans hs
     rw [hs] at hc
     simp only [if_true, ne_eq, not_true, if_false] at hc
     by_cases k3 : 32 < D.length
     ·have hc := hc2
      exact rnd_run 1000 [pk (bT_lss 3 (i : Int) (n : Int)), pk (sl_ix 22 3 1 ((clt L (L.length / 2)).map (rowZi)) i (i : Int) (rowZi (iat (clt L (L.length / 2)) i)) (iat_row ec)), pk (bF_gtr 3 (iat (clt L (L.length / 2)) i) 2), pk (sl_ix 72 4 1 ((spB' L).map (rowBo)) i (i : Int) ([.lit (.bool true)]) (brow es hst)), pk (sl_ix 22 3 1 ((clt L (L.length / 2)).map (rowZi)) i (i : Int) (rowZi (iat (clt L (L.length / 2)) i)) (iat_row ec)), pk (b_eql 3 (iat (clt L (L.length / 2)) i) 2 true (decide_eq_true hc)), pa, po (hp), pk (sl_ln 62 55 3 3 ((D).map (rowD)) ((D).length : Int)), pk (bT_gtr 3 ((D).length : Int) 32)] (by kernel_rfl)
     ·rw [if_neg k3] at hc
      have lo := lm.2 hc
      have hc := hc2
      exact rnd_run 1000 [pk (bT_lss 3 (i : Int) (n : Int)), pk (sl_ix 22 3 1 ((clt L (L.length / 2)).map (rowZi)) i (i : Int) (rowZi (iat (clt L (L.length / 2)) i)) (iat_row ec)), pk (bF_gtr 3 (iat (clt L (L.length / 2)) i) 2), pk (sl_ix 72 4 1 ((spB' L).map (rowBo)) i (i : Int) ([.lit (.bool true)]) (brow es hst)), pk (sl_ix 22 3 1 ((clt L (L.length / 2)).map (rowZi)) i (i : Int) (rowZi (iat (clt L (L.length / 2)) i)) (iat_row ec)), pk (b_eql 3 (iat (clt L (L.length / 2)) i) 2 true (decide_eq_true hc)), pa, po (hp), pk (sl_ln 62 55 3 3 ((D).map (rowD)) ((D).length : Int)), pk (bF_gtr 3 ((D).length : Int) 32), pl (lo)] (by kernel_rfl)
    | false =>
     have hst := (spB'_at (L := L) (i := i) (by omega)).trans hs
     have hc := hc2
     exact rnd_run 1000 [pk (bT_lss 3 (i : Int) (n : Int)), pk (sl_ix 22 3 1 ((clt L (L.length / 2)).map (rowZi)) i (i : Int) (rowZi (iat (clt L (L.length / 2)) i)) (iat_row ec)), pk (bF_gtr 3 (iat (clt L (L.length / 2)) i) 2), pk (sl_ix 72 4 1 ((spB' L).map (rowBo)) i (i : Int) ([.lit (.bool false)]) (brow es hst)), pk (sl_ix 22 3 1 ((clt L (L.length / 2)).map (rowZi)) i (i : Int) (rowZi (iat (clt L (L.length / 2)) i)) (iat_row ec)), pk (b_eql 3 (iat (clt L (L.length / 2)) i) 2 true (decide_eq_true hc)), pa] (by kernel_rfl)
   ·rw [decide_eq_false hc2] at hc
    cases hs : decide ((tat L i).st = 1) with
    | true =>
     have hst := (spB'_at (L := L) (i := i) (by omega)).trans hs
     have hc := hc2
     exact rnd_run 1000 [pk (bT_lss 3 (i : Int) (n : Int)), pk (sl_ix 22 3 1 ((clt L (L.length / 2)).map (rowZi)) i (i : Int) (rowZi (iat (clt L (L.length / 2)) i)) (iat_row ec)), pk (bF_gtr 3 (iat (clt L (L.length / 2)) i) 2), pk (sl_ix 72 4 1 ((spB' L).map (rowBo)) i (i : Int) ([.lit (.bool true)]) (brow es hst)), pk (sl_ix 22 3 1 ((clt L (L.length / 2)).map (rowZi)) i (i : Int) (rowZi (iat (clt L (L.length / 2)) i)) (iat_row ec)), pk (b_eql 3 (iat (clt L (L.length / 2)) i) 2 false (decide_eq_false hc)), pa] (by kernel_rfl)
    | false =>
     have hst := (spB'_at (L := L) (i := i) (by omega)).trans hs
     rw [hs] at hc
     simp only [if_true, ne_eq, not_true, if_false] at hc
     by_cases k3 : 32 < D.length
     ·have hc := hc2
      exact rnd_run 1000 [pk (bT_lss 3 (i : Int) (n : Int)), pk (sl_ix 22 3 1 ((clt L (L.length / 2)).map (rowZi)) i (i : Int) (rowZi (iat (clt L (L.length / 2)) i)) (iat_row ec)), pk (bF_gtr 3 (iat (clt L (L.length / 2)) i) 2), pk (sl_ix 72 4 1 ((spB' L).map (rowBo)) i (i : Int) ([.lit (.bool false)]) (brow es hst)), pk (sl_ix 22 3 1 ((clt L (L.length / 2)).map (rowZi)) i (i : Int) (rowZi (iat (clt L (L.length / 2)) i)) (iat_row ec)), pk (b_eql 3 (iat (clt L (L.length / 2)) i) 2 false (decide_eq_false hc)), pa, po (hp), pk (sl_ln 62 55 3 3 ((D).map (rowD)) ((D).length : Int)), pk (bT_gtr 3 ((D).length : Int) 32)] (by kernel_rfl)
     ·rw [if_neg k3] at hc
      have lo := lm.2 hc
      have hc := hc2
      exact rnd_run 1000 [pk (bT_lss 3 (i : Int) (n : Int)), pk (sl_ix 22 3 1 ((clt L (L.length / 2)).map (rowZi)) i (i : Int) (rowZi (iat (clt L (L.length / 2)) i)) (iat_row ec)), pk (bF_gtr 3 (iat (clt L (L.length / 2)) i) 2), pk (sl_ix 72 4 1 ((spB' L).map (rowBo)) i (i : Int) ([.lit (.bool false)]) (brow es hst)), pk (sl_ix 22 3 1 ((clt L (L.length / 2)).map (rowZi)) i (i : Int) (rowZi (iat (clt L (L.length / 2)) i)) (iat_row ec)), pk (b_eql 3 (iat (clt L (L.length / 2)) i) 2 false (decide_eq_false hc)), pa, po (hp), pk (sl_ln 62 55 3 3 ((D).map (rowD)) ((D).length : Int)), pk (bF_gtr 3 ((D).length : Int) 32), pl (lo)] (by kernel_rfl)
end
end Go.Proofs.YtflajoflpkboiaaGreat

/- The reference's Pairs (contract), beaten, and its Validate. -/
namespace Go.Proofs.YtflajoflpkboiaaGreat
open Go Go.RowKit
set_option linter.unusedVariables false
set_option linter.unusedSimpArgs false

/-- what the reference asks of parents and decisions -/
def rpB (L : List Nd) : Bool := rtB L && ((List.range (L.length / 2)).all (prB L)) && decide (findc (ouC L) L.length 0 = 0)
section
variable {I : WInv} {c c' : Bool}

theorem pairs_all (L : List Nd) (n M : Nat) (hn : L.length = n) (hM : n = 2 * M + 1) (hl : n ≤ 2002) (h : ∀ x, x < M → prB L x = true) :
  LoopTr Tryz.prog I 192 (loopC Tryz.prog 55 0) (qast L n (clt L 0) (2 * ((0 : Nat) : Int) + 1)) (.exit 0) ⟨[(0, .cv (.one (.b (.it (slI 1 ((parI L).map (rowZi))))))), (1, .cv (.one (.b (.it (slI 3 ((decL L).map (rowD))))))), (2, .cv (.one (.b (.it (slI 1 ((spB' L).map (rowBo))))))), (7, .cv (.one (.b (.lit (.int .i64 (n : Int)))))), (8, .cv (.one (.sl 25)))], [(25, some ⟨3, some (1, n), flatR ((clt L M).map rowZi)⟩)], 50⟩ :=
 loop_up (by simp) (fun m => qast L n (clt L m) (2 * (m : Int) + 1)) M (fun m hm => (pairs_round L n hn m (by omega) hl).1 (h m hm)) (by
  exact Rnd.nam [] (show Rnd _ _ _ _ _ _ ⟨[(0, .cv (.one (.b (.it (slI 1 ((parI L).map (rowZi))))))), (1, .cv (.one (.b (.it (slI 3 ((decL L).map (rowD))))))), (2, .cv (.one (.b (.it (slI 1 ((spB' L).map (rowBo))))))), (7, .cv (.one (.b (.lit (.int .i64 (n : Int)))))), (8, .cv (.one (.sl 25)))], [(25, some ⟨3, some (1, n), flatR ((clt L M).map rowZi)⟩)], 53⟩ from rnd_run 1000 [pk (bF_lss 3 (2 * (M : Int) + 1) (n : Int))] (by kernel_rfl)) (t := ⟨[(0, .cv (.one (.b (.it (slI 1 ((parI L).map (rowZi))))))), (1, .cv (.one (.b (.it (slI 3 ((decL L).map (rowD))))))), (2, .cv (.one (.b (.it (slI 1 ((spB' L).map (rowBo))))))), (7, .cv (.one (.b (.lit (.int .i64 (n : Int)))))), (8, .cv (.one (.sl 25)))], [(25, some ⟨3, some (1, n), flatR ((clt L M).map rowZi)⟩)], 50⟩) ⟨rfl, TVle.refl, rfl, TVle.refl, rfl, TVle.refl, rfl, TVle.refl, rfl, TVle.refl, trivial⟩ ⟨rfl, rfl, rfl, ILe.refl, trivial⟩)
theorem pairs_bad (L : List Nd) (n i : Nat) (hn : L.length = n) (hi : 2 * i + 2 < n) (hl : n ≤ 2002) (h : ∀ x, x < i → prB L x = true) (hb : prB L i = false) :
  LoopTr Tryz.prog I 192 (loopC Tryz.prog 55 0) (qast L n (clt L 0) (2 * ((0 : Nat) : Int) + 1)) .ret (qbad 50) :=
 loop_up (by simp) (fun m => qast L n (clt L m) (2 * (m : Int) + 1)) i (fun m hm => (pairs_round L n hn m (by omega) hl).1 (h m hm)) ((pairs_round L n hn i hi hl).2 hb)
theorem pairs_sp (L : List Nd) (h0 : 0 < L.length) (hl : L.length ≤ 2002) : Sp Tryz.prog I 55 [parT L, decT L, splT L] (lb (rpB L)) := by
 obtain ⟨n, hn⟩ : ∃ n, L.length = n := ⟨_, rfl⟩
 have hlp := parI_len L
 have e0 : 0 < (parI L).length := by rw [parI_len]; exact h0
 have f0 : 0 < (decL L).length := by rw [decL_len]; exact h0
 have g0 := parI_at h0
 have hz := zero_dec (I := I) (dat (decL L) 0)
 rw [decL_at h0] at hz
 have d0 := decL_at h0
 by_cases q3 : L.length % 2 = 1
 ·by_cases q1 : (tat L 0).par = -1
  ·by_cases q2 : dcn (tat L 0) = (0, 0, false)
   ·rw [decide_eq_true q2, ← d0] at hz
    obtain ⟨M, hM⟩ : ∃ M, L.length = 2 * M + 1 := ⟨L.length / 2, by omega⟩
    have hM2 : L.length / 2 = M := by omega
    have hz0 : clt L 0 = List.replicate L.length 0 := rfl
    rcases first_bad (prB L) M with h | ⟨i, h1, h2, h3⟩
    ·have lo := pairs_all (I := I) L n M hn (by omega) (by omega) h
     unfold qast at lo
     rw [hz0, zero_ints, hn, show 2 * ((0 : Nat) : Int) + 1 = 1 from rfl] at lo
     have lo2 := ou_loop (I := I) L n hn (by omega) (by have := dn_prs (L := L) (m := M) h; rw [hM]; exact this)
     unfold oust at lo2
     rw [hM2] at lo2
     by_cases k : findc (ouC L) n 0 = 0
     ·rw [show rpB L = true by unfold rpB rtB; rw [hM2, hn]; simp [q1, q2, k, hn ▸ q3]; exact h]
      have lo2 := lo2.1 k
      rw [hM2] at *
      exact sp_run (nt := 192) 1000 [pk (sl_ln 22 3 3 1 ((parI L).map (rowZi)) (n : Int)), pk (bF_eql 3 (n : Int) 0), pk (b_rem 3 (n : Int) 2 (by omega)), pk (b_eql 3 (((n : Int)).tmod 2) 0 false (decide_eq_false (by rw [Int.tmod_eq_emod_of_nonneg (by omega)]; omega))), pk (sl_ix 22 3 1 ((parI L).map (rowZi)) 0 0 (rowZi (iat (parI L) 0)) (iat_row e0)), pk (bF_neq 3 (iat (parI L) 0) (-1)), pk (sl_ix 62 55 3 ((decL L).map (rowD)) 0 0 (rowD (dat (decL L) 0)) (dat_row f0)), po (hz), pa, ⟨.mk (n : Int) n 8, ⟨rfl, by omega, by simp only [maxLen]; omega⟩⟩, ⟨.mk (n : Int) n 8, ⟨rfl, by omega, by simp only [maxLen]; omega⟩⟩, pl (lo), pm (freeze_leads (I := I) (t := 8) (k := 25) (E := [(0, .cv (.one (.b (.it (slI 1 ((parI L).map (rowZi))))))), (1, .cv (.one (.b (.it (slI 3 ((decL L).map (rowD))))))), (2, .cv (.one (.b (.it (slI 1 ((spB' L).map (rowBo))))))), (7, .cv (.one (.b (.lit (.int .i64 (n : Int))))))]) (B := []) (nx := 50) (T := 3) (sz := 1) (n := n) ((clt L M).map rowZi) rfl (by rw [List.length_map, clt_len]; exact hn.symm) rowZi_w rfl), pl (lo2)] (by kernel_rfl)
     ·rw [show rpB L = false by unfold rpB; rw [hn, decide_eq_false k, Bool.and_false]]
      have lo2 := lo2.2 k
      exact sp_run (nt := 192) 1000 [pk (sl_ln 22 3 3 1 ((parI L).map (rowZi)) (n : Int)), pk (bF_eql 3 (n : Int) 0), pk (b_rem 3 (n : Int) 2 (by omega)), pk (b_eql 3 (((n : Int)).tmod 2) 0 false (decide_eq_false (by rw [Int.tmod_eq_emod_of_nonneg (by omega)]; omega))), pk (sl_ix 22 3 1 ((parI L).map (rowZi)) 0 0 (rowZi (iat (parI L) 0)) (iat_row e0)), pk (bF_neq 3 (iat (parI L) 0) (-1)), pk (sl_ix 62 55 3 ((decL L).map (rowD)) 0 0 (rowD (dat (decL L) 0)) (dat_row f0)), po (hz), pa, ⟨.mk (n : Int) n 8, ⟨rfl, by omega, by simp only [maxLen]; omega⟩⟩, ⟨.mk (n : Int) n 8, ⟨rfl, by omega, by simp only [maxLen]; omega⟩⟩, pl (lo), pm (freeze_leads (I := I) (t := 8) (k := 25) (E := [(0, .cv (.one (.b (.it (slI 1 ((parI L).map (rowZi))))))), (1, .cv (.one (.b (.it (slI 3 ((decL L).map (rowD))))))), (2, .cv (.one (.b (.it (slI 1 ((spB' L).map (rowBo))))))), (7, .cv (.one (.b (.lit (.int .i64 (n : Int))))))]) (B := []) (nx := 50) (T := 3) (sz := 1) (n := n) ((clt L M).map rowZi) rfl (by rw [List.length_map, clt_len]; exact hn.symm) rowZi_w rfl), pl (lo2)] (by kernel_rfl)
    ·have lo := pairs_bad (I := I) L n i hn (by omega) (by omega) h2 h3
     unfold qast at lo
     rw [hz0, zero_ints, hn, show 2 * ((0 : Nat) : Int) + 1 = 1 from rfl] at lo
     rw [show rpB L = false by
      unfold rpB
      rw [Bool.and_eq_false_iff, Bool.and_eq_false_iff]
      left; right
      rw [List.all_eq_false]
      exact ⟨i, List.mem_range.2 (by omega), by simp [h3]⟩]
     exact sp_run (nt := 192) 1000 [pk (sl_ln 22 3 3 1 ((parI L).map (rowZi)) (n : Int)), pk (bF_eql 3 (n : Int) 0), pk (b_rem 3 (n : Int) 2 (by omega)), pk (b_eql 3 (((n : Int)).tmod 2) 0 false (decide_eq_false (by rw [Int.tmod_eq_emod_of_nonneg (by omega)]; omega))), pk (sl_ix 22 3 1 ((parI L).map (rowZi)) 0 0 (rowZi (iat (parI L) 0)) (iat_row e0)), pk (bF_neq 3 (iat (parI L) 0) (-1)), pk (sl_ix 62 55 3 ((decL L).map (rowD)) 0 0 (rowD (dat (decL L) 0)) (dat_row f0)), po (hz), pa, ⟨.mk (n : Int) n 8, ⟨rfl, by omega, by simp only [maxLen]; omega⟩⟩, ⟨.mk (n : Int) n 8, ⟨rfl, by omega, by simp only [maxLen]; omega⟩⟩, pl (lo)] (by kernel_rfl)
   ·rw [decide_eq_false q2, ← d0] at hz
    rw [show rpB L = false by unfold rpB rtB; simp [q2]]
    exact sp_run (nt := 192) 1000 [pk (sl_ln 22 3 3 1 ((parI L).map (rowZi)) (n : Int)), pk (bF_eql 3 (n : Int) 0), pk (b_rem 3 (n : Int) 2 (by omega)), pk (b_eql 3 (((n : Int)).tmod 2) 0 false (decide_eq_false (by rw [Int.tmod_eq_emod_of_nonneg (by omega)]; omega))), pk (sl_ix 22 3 1 ((parI L).map (rowZi)) 0 0 (rowZi (iat (parI L) 0)) (iat_row e0)), pk (bF_neq 3 (iat (parI L) 0) (-1)), pk (sl_ix 62 55 3 ((decL L).map (rowD)) 0 0 (rowD (dat (decL L) 0)) (dat_row f0)), po (hz), pa] (by kernel_rfl)
  ·rw [show rpB L = false by unfold rpB rtB; simp [q1]]
   exact sp_run (nt := 192) 1000 [pk (sl_ln 22 3 3 1 ((parI L).map (rowZi)) (n : Int)), pk (bF_eql 3 (n : Int) 0), pk (b_rem 3 (n : Int) 2 (by omega)), pk (b_eql 3 (((n : Int)).tmod 2) 0 false (decide_eq_false (by rw [Int.tmod_eq_emod_of_nonneg (by omega)]; omega))), pk (sl_ix 22 3 1 ((parI L).map (rowZi)) 0 0 (rowZi (iat (parI L) 0)) (iat_row e0)), pk (bT_neq 3 (iat (parI L) 0) (-1))] (by kernel_rfl)
 ·rw [show rpB L = false by unfold rpB rtB; simp [q3]]
  exact sp_run (nt := 192) 1000 [pk (sl_ln 22 3 3 1 ((parI L).map (rowZi)) (n : Int)), pk (bF_eql 3 (n : Int) 0), pk (b_rem 3 (n : Int) 2 (by omega)), pk (b_eql 3 (((n : Int)).tmod 2) 0 true (decide_eq_true (by rw [Int.tmod_eq_emod_of_nonneg (by omega)]; omega)))] (by kernel_rfl)
end
end Go.Proofs.YtflajoflpkboiaaGreat

/- The reference's Validate. -/
namespace Go.Proofs.YtflajoflpkboiaaGreat
open Go Go.RowKit
set_option linter.unusedVariables false
set_option linter.unusedSimpArgs false

def betB (f : Bool) (z : Int) (q : Rat) : Bool := f && decide (z ≤ civ q)
def bdC (L : List Nd) (i : Nat) : Int := if (tat L i).q < (tat L (tat L i).par.toNat).q then 12 else 0
def rsC (L : List Nd) (f : Bool) (z : Int) (i : Nat) : Int := if (tat L i).st = 1 then 0 else if decide ((tat L i).st = 2) = betB f z (tat L i).q then 0 else 16
/-- the code of the reference's Validate -/
def rvc (L : List Nd) (f : Bool) (z : Int) : Int :=
 if L.length < 1 ∨ 2000 < L.length then 10 else if costB z = false ∨ (f = false ∧ z ≠ 0) then 5 else if findc (nchk L) L.length 0 ≠ 0 then findc (nchk L) L.length 0 else if rpB L = false then 12 else
 if findc (fun j => bdC L (j + 1)) (L.length - 1) 0 ≠ 0 then findc (fun j => bdC L (j + 1)) (L.length - 1) 0 else findc (rsC L f z) L.length 0
section
variable {I : WInv} {c c' : Bool}

theorem beaten_sp (L : List Nd) (f : Bool) (z : Int) (q : Rat) : Sp Tryz.prog I 46 [trT c L f z, fc c' 12 q] (lb (betB f z q)) := by
 unfold betB
 cases f with
 | false => exact sp_run (nt := 20) 1000 [po (ceilInt25_sp (I := I) (c := c') (p := q))] (by kernel_rfl)
 | true =>
  by_cases h : z ≤ civ q
  ·rw [decide_eq_true h]
   exact sp_run (nt := 20) 1000 [po (ceilInt25_sp (I := I) (c := c') (p := q)), pk (bT_geq 3 (civ q) z)] (by kernel_rfl)
  ·rw [decide_eq_false h]
   exact sp_run (nt := 20) 1000 [po (ceilInt25_sp (I := I) (c := c') (p := q)), pk (bF_geq 3 (civ q) z)] (by kernel_rfl)

def rv1 (c : Bool) (L : List Nd) (f : Bool) (z : Int) (n : Nat) (i : Int) : Go.Proofs.YtflajoflpkboiaaGreat.St := ⟨[(1, .cv (.one (.ptr 0 0))), (3, .cv (.one (.b (.lit (.int .i64 (n : Int)))))), (4, .cv (.one (.b (.lit (.int .i64 i)))))], [(0, some ⟨25, none, [.b (.it (slI 9 ((L).map (rowT c)))), .b (.lit (.bool f)), .b (.lit (.int .i64 z))]⟩)], 50⟩
def rv2 (c : Bool) (L : List Nd) (f : Bool) (z : Int) (n : Nat) (i : Int) : Go.Proofs.YtflajoflpkboiaaGreat.St := ⟨[(1, .cv (.one (.ptr 0 0))), (3, .cv (.one (.b (.lit (.int .i64 (n : Int)))))), (7, .cv (.one (.b (.it (slI 1 ((parI L).map (rowZi))))))), (9, .cv (.one (.b (.it (slI 1 ((spB' L).map (rowBo))))))), (10, .cv (.one (.b (.lit (.int .i64 i)))))], [(0, some ⟨25, none, [.b (.it (slI 9 ((L).map (rowT c)))), .b (.lit (.bool f)), .b (.lit (.int .i64 z))]⟩)], 50⟩
def rv3 (c : Bool) (L : List Nd) (f : Bool) (z : Int) (n : Nat) (i : Int) : Go.Proofs.YtflajoflpkboiaaGreat.St := ⟨[(1, .cv (.one (.ptr 0 0))), (3, .cv (.one (.b (.lit (.int .i64 (n : Int)))))), (9, .cv (.one (.b (.it (slI 1 ((spB' L).map (rowBo))))))), (11, .cv (.one (.b (.lit (.int .i64 i)))))], [(0, some ⟨25, none, [.b (.it (slI 9 ((L).map (rowT c)))), .b (.lit (.bool f)), .b (.lit (.int .i64 z))]⟩)], 50⟩
theorem rval_round1 (L : List Nd) (f : Bool) (z : Int) (n : Nat) (hn : L.length = n) (hl : n ≤ 2000) (i : Nat) (hi : i < L.length) :
  (nchk L i = 0 → Rnd Tryz.prog I 131 (loopC Tryz.prog 27 0) (rv1 c L f z n (i : Int)) .normal (rv1 c L f z n ((i + 1 : Nat) : Int))) ∧ (nchk L i ≠ 0 → Rnd Tryz.prog I 131 (loopC Tryz.prog 27 0) (rv1 c L f z n (i : Int)) .ret ⟨[(2, li 5)], [], 50⟩) := by
 cases h3 : okc (tat L i).q with
 | false =>
  have e := cie_no h3
  refine ⟨fun h => ?_, fun _ => ?_⟩
  ·unfold nchk at h
   rw [h3] at h
   split at h
   ·omega
   ·exact absurd h (by decide)
  ·by_cases h1 : (tat L i).st < 0
   ·exact rnd_run 1000 [pk (bT_lss 3 (i : Int) (n : Int)), pk (sl_ix 23 57 9 ((L).map (rowT c)) i (i : Int) ((rowT c) (tat L i)) (tat_row hi)), po (ceilInt25_sp (I := I) (c := c) (p := (tat L i).q)), pk (sl_ix 23 57 9 ((L).map (rowT c)) i (i : Int) ((rowT c) (tat L i)) (tat_row hi)), pk (bT_lss 3 ((tat L i).st) 0)] (by kernel_rfl)
   ·by_cases h2 : 2 < (tat L i).st
    ·exact rnd_run 1000 [pk (bT_lss 3 (i : Int) (n : Int)), pk (sl_ix 23 57 9 ((L).map (rowT c)) i (i : Int) ((rowT c) (tat L i)) (tat_row hi)), po (ceilInt25_sp (I := I) (c := c) (p := (tat L i).q)), pk (sl_ix 23 57 9 ((L).map (rowT c)) i (i : Int) ((rowT c) (tat L i)) (tat_row hi)), pk (bF_lss 3 ((tat L i).st) 0), pk (sl_ix 23 57 9 ((L).map (rowT c)) i (i : Int) ((rowT c) (tat L i)) (tat_row hi)), pk (bT_gtr 3 ((tat L i).st) 2)] (by kernel_rfl)
    ·exact rnd_run 1000 [pk (bT_lss 3 (i : Int) (n : Int)), pk (sl_ix 23 57 9 ((L).map (rowT c)) i (i : Int) ((rowT c) (tat L i)) (tat_row hi)), po (ceilInt25_sp (I := I) (c := c) (p := (tat L i).q)), pk (sl_ix 23 57 9 ((L).map (rowT c)) i (i : Int) ((rowT c) (tat L i)) (tat_row hi)), pk (bF_lss 3 ((tat L i).st) 0), pk (sl_ix 23 57 9 ((L).map (rowT c)) i (i : Int) ((rowT c) (tat L i)) (tat_row hi)), pk (bF_gtr 3 ((tat L i).st) 2), pk (bT_neq 36 (cie ((tat L i).q)) 0)] (by kernel_rfl)
 | true =>
  have e := cie_ok h3
  by_cases h1 : (tat L i).st < 0
  ·refine ⟨fun h => absurd h (by unfold nchk; rw [if_pos (.inl h1)]; decide), fun _ => ?_⟩
   exact rnd_run 1000 [pk (bT_lss 3 (i : Int) (n : Int)), pk (sl_ix 23 57 9 ((L).map (rowT c)) i (i : Int) ((rowT c) (tat L i)) (tat_row hi)), po (ceilInt25_sp (I := I) (c := c) (p := (tat L i).q)), pk (sl_ix 23 57 9 ((L).map (rowT c)) i (i : Int) ((rowT c) (tat L i)) (tat_row hi)), pk (bT_lss 3 ((tat L i).st) 0)] (by kernel_rfl)
  ·by_cases h2 : 2 < (tat L i).st
   ·refine ⟨fun h => absurd h (by unfold nchk; rw [if_pos (.inr h2)]; decide), fun _ => ?_⟩
    exact rnd_run 1000 [pk (bT_lss 3 (i : Int) (n : Int)), pk (sl_ix 23 57 9 ((L).map (rowT c)) i (i : Int) ((rowT c) (tat L i)) (tat_row hi)), po (ceilInt25_sp (I := I) (c := c) (p := (tat L i).q)), pk (sl_ix 23 57 9 ((L).map (rowT c)) i (i : Int) ((rowT c) (tat L i)) (tat_row hi)), pk (bF_lss 3 ((tat L i).st) 0), pk (sl_ix 23 57 9 ((L).map (rowT c)) i (i : Int) ((rowT c) (tat L i)) (tat_row hi)), pk (bT_gtr 3 ((tat L i).st) 2)] (by kernel_rfl)
   ·refine ⟨fun _ => ?_, fun h => absurd (show nchk L i = 0 by unfold nchk; rw [if_neg (by omega), h3]; rfl) h⟩
    exact rnd_run 1000 [pk (bT_lss 3 (i : Int) (n : Int)), pk (sl_ix 23 57 9 ((L).map (rowT c)) i (i : Int) ((rowT c) (tat L i)) (tat_row hi)), po (ceilInt25_sp (I := I) (c := c) (p := (tat L i).q)), pk (sl_ix 23 57 9 ((L).map (rowT c)) i (i : Int) ((rowT c) (tat L i)) (tat_row hi)), pk (bF_lss 3 ((tat L i).st) 0), pk (sl_ix 23 57 9 ((L).map (rowT c)) i (i : Int) ((rowT c) (tat L i)) (tat_row hi)), pk (bF_gtr 3 ((tat L i).st) 2), pk (bF_neq 36 (cie ((tat L i).q)) 0), pk (b_add 3 (i : Int) 1 ⟨by omega, by omega⟩)] (by kernel_rfl)
theorem rval_round2 (L : List Nd) (f : Bool) (z : Int) (n : Nat) (hn : L.length = n) (hl : n ≤ 2000) (hD : Dn L (L.length - 1)) (i : Nat) (h0 : 0 < i) (hi : i < L.length) :
  (bdC L i = 0 → Rnd Tryz.prog I 131 (loopC Tryz.prog 27 1) (rv2 c L f z n (i : Int)) .normal (rv2 c L f z n ((i + 1 : Nat) : Int))) ∧ (bdC L i ≠ 0 → Rnd Tryz.prog I 131 (loopC Tryz.prog 27 1) (rv2 c L f z n (i : Int)) .ret ⟨[(2, li 12)], [], 50⟩) := by
 have ei : i < (parI L).length := by rw [parI_len]; exact hi
 obtain ⟨p, hpe, hlt⟩ := hD.nat h0 (by omega)
 have hp : p < L.length := by omega
 have g := parI_at hi
 have ht : (tat L i).par.toNat = p := by omega
 unfold bdC
 rw [ht]
 by_cases h : (tat L i).q < (tat L p).q
 ·rw [if_pos h]
  refine ⟨fun h => by omega, fun _ => ?_⟩
  exact rnd_run 1000 [pk (bT_lss 3 (i : Int) (n : Int)), pk (sl_ix 23 57 9 ((L).map (rowT c)) i (i : Int) ((rowT c) (tat L i)) (tat_row hi)), pk (sl_ix 22 3 1 ((parI L).map (rowZi)) i (i : Int) (rowZi (iat (parI L) i)) (iat_row ei)), pk (sl_ix 23 57 9 ((L).map (rowT c)) p (iat (parI L) i) ((rowT c) (tat L p)) (tat_row hp)), po (cmp25F (I := I) (c := c) (c' := c) (p := (tat L i).q) (q := (tat L p).q)), pk (b_lss 3 (cmpq ((tat L i).q) ((tat L p).q)) 0 true (cmpq_ltA (by grind)))] (by kernel_rfl)
 ·rw [if_neg h]
  refine ⟨fun _ => ?_, fun h => by omega⟩
  exact rnd_run 1000 [pk (bT_lss 3 (i : Int) (n : Int)), pk (sl_ix 23 57 9 ((L).map (rowT c)) i (i : Int) ((rowT c) (tat L i)) (tat_row hi)), pk (sl_ix 22 3 1 ((parI L).map (rowZi)) i (i : Int) (rowZi (iat (parI L) i)) (iat_row ei)), pk (sl_ix 23 57 9 ((L).map (rowT c)) p (iat (parI L) i) ((rowT c) (tat L p)) (tat_row hp)), po (cmp25F (I := I) (c := c) (c' := c) (p := (tat L i).q) (q := (tat L p).q)), pk (b_lss 3 (cmpq ((tat L i).q) ((tat L p).q)) 0 false (cmpq_nltA (by grind))), pk (b_add 3 (i : Int) 1 ⟨by omega, by omega⟩)] (by kernel_rfl)
theorem rval_round3 (L : List Nd) (f : Bool) (z : Int) (n : Nat) (hn : L.length = n) (hl : n ≤ 2000) (i : Nat) (hi : i < L.length) :
  (rsC L f z i = 0 → Rnd Tryz.prog I 131 (loopC Tryz.prog 27 2) (rv3 c L f z n (i : Int)) .normal (rv3 c L f z n ((i + 1 : Nat) : Int))) ∧ (rsC L f z i ≠ 0 → Rnd Tryz.prog I 131 (loopC Tryz.prog 27 2) (rv3 c L f z n (i : Int)) .ret ⟨[(2, li 16)], [], 50⟩) := by
 have es : i < (spB' L).length := by rw [spB'_len]; exact hi
 have hb := beaten_sp (I := I) (c := c) (c' := c) L f z (tat L i).q
 have hs := spB'_at hi
 unfold rsC
 by_cases h1 : (tat L i).st = 1
 ·rw [decide_eq_true h1] at hs
  rw [if_pos h1]
  refine ⟨fun _ => ?_, fun h => absurd rfl h⟩
  exact rnd_run 1000 [pk (bT_lss 3 (i : Int) (n : Int)), pk (sl_ix 72 4 1 ((spB' L).map (rowBo)) i (i : Int) ([.lit (.bool true)]) (brow es hs)), pa, pk (b_add 3 (i : Int) 1 ⟨by omega, by omega⟩)] (by kernel_rfl)
 ·rw [decide_eq_false h1] at hs
  rw [if_neg h1]
  cases hbe : betB f z (tat L i).q with
  | true =>
   rw [hbe] at hb
   by_cases h2 : (tat L i).st = 2
   ·rw [decide_eq_true h2, if_pos rfl]
    refine ⟨fun _ => ?_, fun h => absurd rfl h⟩
    exact rnd_run 1000 [pk (bT_lss 3 (i : Int) (n : Int)), pk (sl_ix 72 4 1 ((spB' L).map (rowBo)) i (i : Int) ([.lit (.bool false)]) (brow es hs)), pa, pk (sl_ix 23 57 9 ((L).map (rowT c)) i (i : Int) ((rowT c) (tat L i)) (tat_row hi)), pk (bT_eql 3 ((tat L i).st) 2), pk (sl_ix 23 57 9 ((L).map (rowT c)) i (i : Int) ((rowT c) (tat L i)) (tat_row hi)), po (hb), pa, pk (b_add 3 (i : Int) 1 ⟨by omega, by omega⟩)] (by kernel_rfl)
   ·rw [decide_eq_false h2, if_neg (by simp)]
    refine ⟨fun h => by omega, fun _ => ?_⟩
    exact rnd_run 1000 [pk (bT_lss 3 (i : Int) (n : Int)), pk (sl_ix 72 4 1 ((spB' L).map (rowBo)) i (i : Int) ([.lit (.bool false)]) (brow es hs)), pa, pk (sl_ix 23 57 9 ((L).map (rowT c)) i (i : Int) ((rowT c) (tat L i)) (tat_row hi)), pk (bF_eql 3 ((tat L i).st) 2), pk (sl_ix 23 57 9 ((L).map (rowT c)) i (i : Int) ((rowT c) (tat L i)) (tat_row hi)), po (hb), pa] (by kernel_rfl)
  | false =>
   rw [hbe] at hb
   by_cases h2 : (tat L i).st = 2
   ·rw [decide_eq_true h2, if_neg (by simp)]
    refine ⟨fun h => by omega, fun _ => ?_⟩
    exact rnd_run 1000 [pk (bT_lss 3 (i : Int) (n : Int)), pk (sl_ix 72 4 1 ((spB' L).map (rowBo)) i (i : Int) ([.lit (.bool false)]) (brow es hs)), pa, pk (sl_ix 23 57 9 ((L).map (rowT c)) i (i : Int) ((rowT c) (tat L i)) (tat_row hi)), pk (bT_eql 3 ((tat L i).st) 2), pk (sl_ix 23 57 9 ((L).map (rowT c)) i (i : Int) ((rowT c) (tat L i)) (tat_row hi)), po (hb), pa] (by kernel_rfl)
   ·rw [decide_eq_false h2, if_pos rfl]
    refine ⟨fun _ => ?_, fun h => absurd rfl h⟩
    exact rnd_run 1000 [pk (bT_lss 3 (i : Int) (n : Int)), pk (sl_ix 72 4 1 ((spB' L).map (rowBo)) i (i : Int) ([.lit (.bool false)]) (brow es hs)), pa, pk (sl_ix 23 57 9 ((L).map (rowT c)) i (i : Int) ((rowT c) (tat L i)) (tat_row hi)), pk (bF_eql 3 ((tat L i).st) 2), pk (sl_ix 23 57 9 ((L).map (rowT c)) i (i : Int) ((rowT c) (tat L i)) (tat_row hi)), po (hb), pa, pk (b_add 3 (i : Int) 1 ⟨by omega, by omega⟩)] (by kernel_rfl)
theorem bdC_12 {L : List Nd} {i : Nat} (h : bdC L i ≠ 0) : bdC L i = 12 := by
 unfold bdC at h ⊢
 split
 ·rfl
 ·rename_i k; rw [if_neg k] at h; exact absurd rfl h
theorem rsC_16 {L : List Nd} {f : Bool} {z : Int} {i : Nat} (h : rsC L f z i ≠ 0) : rsC L f z i = 16 := by
 unfold rsC at h ⊢
 split
 ·rename_i k; rw [if_pos k] at h; exact absurd rfl h
 ·rename_i k
  rw [if_neg k] at h
  split
  ·rename_i k2; rw [if_pos k2] at h; exact absurd rfl h
  ·rfl
theorem rpB_dn {L : List Nd} (h : rpB L = true) : Dn L (L.length - 1) := by
 unfold rpB rtB at h
 simp only [Bool.and_eq_true, List.all_eq_true, List.mem_range, decide_eq_true_eq] at h
 obtain ⟨⟨⟨_, h1⟩, h2⟩, _⟩ := h
 have := dn_prs (L := L) (m := L.length / 2) h2
 rw [show L.length - 1 = 2 * (L.length / 2) by omega]
 exact this

theorem rval_loops (L : List Nd) (f : Bool) (z : Int) (hl : L.length ≤ 2000) :
  ((findc (nchk L) L.length 0 = 0 → LoopTr Tryz.prog I 131 (loopC Tryz.prog 27 0) (rv1 c L f z L.length ((0 : Nat) : Int)) (.exit 0) ⟨[(1, .cv (.one (.ptr 0 0))), (3, .cv (.one (.b (.lit (.int .i64 ((L).length : Int))))))], [(0, some ⟨25, none, [.b (.it (slI 9 ((L).map (rowT c)))), .b (.lit (.bool f)), .b (.lit (.int .i64 z))]⟩)], 50⟩) ∧ (findc (nchk L) L.length 0 ≠ 0 → LoopTr Tryz.prog I 131 (loopC Tryz.prog 27 0) (rv1 c L f z L.length ((0 : Nat) : Int)) .ret ⟨[(2, li (findc (nchk L) L.length 0))], [], 50⟩)) ∧
  (Dn L (L.length - 1) → 0 < L.length → (findc (fun j => bdC L (j + 1)) (L.length - 1) 0 = 0 → LoopTr Tryz.prog I 131 (loopC Tryz.prog 27 1) (rv2 c L f z L.length ((1 : Nat) : Int)) (.exit 2) ⟨[(1, .cv (.one (.ptr 0 0))), (3, .cv (.one (.b (.lit (.int .i64 ((L).length : Int)))))), (9, .cv (.one (.b (.it (slI 1 ((spB' L).map (rowBo)))))))], [(0, some ⟨25, none, [.b (.it (slI 9 ((L).map (rowT c)))), .b (.lit (.bool f)), .b (.lit (.int .i64 z))]⟩)], 50⟩) ∧ (findc (fun j => bdC L (j + 1)) (L.length - 1) 0 ≠ 0 → LoopTr Tryz.prog I 131 (loopC Tryz.prog 27 1) (rv2 c L f z L.length ((1 : Nat) : Int)) .ret ⟨[(2, li (findc (fun j => bdC L (j + 1)) (L.length - 1) 0))], [], 50⟩)) ∧
  ((findc (rsC L f z) L.length 0 = 0 → LoopTr Tryz.prog I 131 (loopC Tryz.prog 27 2) (rv3 c L f z L.length ((0 : Nat) : Int)) (.exit 4) ⟨[], [], 50⟩) ∧ (findc (rsC L f z) L.length 0 ≠ 0 → LoopTr Tryz.prog I 131 (loopC Tryz.prog 27 2) (rv3 c L f z L.length ((0 : Nat) : Int)) .ret ⟨[(2, li (findc (rsC L f z) L.length 0))], [], 50⟩)) := by
 refine ⟨?_, fun hD h0 => ?_, ?_⟩
 ·refine loop_find (nchk L) L.length (fun i => rv1 c L f z L.length (i : Int)) (fun r => ⟨[(2, li r)], [], 50⟩) (fun i hi hc => (rval_round1 L f z _ rfl hl i hi).1 hc) ?_ (fun i hi hc => ?_)
  ·exact rnd_run 1000 [pk (bF_lss 3 ((L).length : Int) ((L).length : Int))] (by kernel_rfl)
  ·rw [nchk_5 hc]
   exact (rval_round1 L f z _ rfl hl i hi).2 hc
 ·refine loop_find (fun j => bdC L (j + 1)) (L.length - 1) (fun i => rv2 c L f z L.length ((i + 1 : Nat) : Int)) (fun r => ⟨[(2, li r)], [], 50⟩) (fun i hi hc => (rval_round2 L f z _ rfl hl hD (i + 1) (by omega) (by omega)).1 hc) ?_ (fun i hi hc => ?_)
  ·rw [show L.length - 1 + 1 = L.length by omega]
   exact rnd_run 1000 [pk (bF_lss 3 ((L).length : Int) ((L).length : Int))] (by kernel_rfl)
  ·rw [bdC_12 hc]
   exact (rval_round2 L f z _ rfl hl hD (i + 1) (by omega) (by omega)).2 hc
 ·refine loop_find (rsC L f z) L.length (fun i => rv3 c L f z L.length (i : Int)) (fun r => ⟨[(2, li r)], [], 50⟩) (fun i hi hc => (rval_round3 L f z _ rfl hl i hi).1 hc) ?_ (fun i hi hc => ?_)
  ·exact rnd_run 1000 [pk (bF_lss 3 ((L).length : Int) ((L).length : Int))] (by kernel_rfl)
  ·rw [rsC_16 hc]
   exact (rval_round3 L f z _ rfl hl i hi).2 hc
theorem rvalidate_sp (L : List Nd) (f : Bool) (z : Int) (hl : L.length ≤ 1000000000) : Sp Tryz.prog I 27 [trT c L f z] (li (rvc L f z)) := by
 have hc := rcost_sp (I := I) z
 unfold rvc
 by_cases h1 : L.length < 1
 ·rw [if_pos (.inl h1)]
  exact sp_run (nt := 131) 1000 [pk (sl_ln 23 57 3 9 ((L).map (rowT c)) ((L).length : Int)), pk (bT_eql 3 ((L).length : Int) 0)] (by kernel_rfl)
 ·by_cases h2 : 2000 < L.length
  ·rw [if_pos (.inr h2)]
   exact sp_run (nt := 131) 1000 [pk (sl_ln 23 57 3 9 ((L).map (rowT c)) ((L).length : Int)), pk (bF_eql 3 ((L).length : Int) 0), pk (bT_gtr 3 ((L).length : Int) 2000)] (by kernel_rfl)
  ·rw [if_neg (by omega)]
   have hli := lists_sp (I := I) (c := c) L f z (by omega)
   have hpa := pairs_sp (I := I) L (by omega) (by omega)
   cases hcb : costB z with
   | false =>
    rw [hcb] at hc
    rw [if_pos (.inl rfl)]
    exact sp_run (nt := 131) 1000 [pk (sl_ln 23 57 3 9 ((L).map (rowT c)) ((L).length : Int)), pk (bF_eql 3 ((L).length : Int) 0), pk (bF_gtr 3 ((L).length : Int) 2000), po (hc), pa] (by kernel_rfl)
   | true =>
    rw [hcb] at hc
    obtain ⟨l1, l2, l3⟩ := rval_loops (I := I) (c := c) L f z (by omega)
    have tail : ∀ (P0 : findc (nchk L) L.length 0 ≠ 0 → Sp Tryz.prog I 27 [trT c L f z] (li (findc (nchk L) L.length 0))) (P1 : findc (nchk L) L.length 0 = 0 → rpB L = false → Sp Tryz.prog I 27 [trT c L f z] (li 12)) (P2 : findc (nchk L) L.length 0 = 0 → rpB L = true → findc (fun j => bdC L (j + 1)) (L.length - 1) 0 ≠ 0 → Sp Tryz.prog I 27 [trT c L f z] (li (findc (fun j => bdC L (j + 1)) (L.length - 1) 0)))
      (P3 : findc (nchk L) L.length 0 = 0 → rpB L = true → findc (fun j => bdC L (j + 1)) (L.length - 1) 0 = 0 → Sp Tryz.prog I 27 [trT c L f z] (li (findc (rsC L f z) L.length 0))), Sp Tryz.prog I 27 [trT c L f z] (li (if findc (nchk L) L.length 0 ≠ 0 then findc (nchk L) L.length 0 else if rpB L = false then 12 else if findc (fun j => bdC L (j + 1)) (L.length - 1) 0 ≠ 0 then findc (fun j => bdC L (j + 1)) (L.length - 1) 0 else findc (rsC L f z) L.length 0)) := by
     intro P0 P1 P2 P3
     by_cases h5 : findc (nchk L) L.length 0 = 0
     ·rw [if_neg (fun h => h h5)]
      cases h6 : rpB L with
      | false => rw [if_pos rfl]; exact P1 h5 h6
      | true =>
       rw [if_neg (by decide)]
       by_cases h7 : findc (fun j => bdC L (j + 1)) (L.length - 1) 0 = 0
       ·rw [if_neg (fun h => h h7)]; exact P3 h5 h6 h7
       ·rw [if_pos h7]; exact P2 h5 h6 h7
     ·rw [if_pos h5]; exact P0 h5
    cases f with
    | false =>
     by_cases hz : z = 0
     ·rw [if_neg (by simp [hz])]
      refine tail (fun h5 => ?_) (fun h5 h6 => ?_) (fun h5 h6 h7 => ?_) (fun h5 h6 h7 => ?_)
      ·have lo := l1.2 h5
       generalize findc (nchk L) L.length 0 = r at *
       exact sp_run (nt := 131) 1000 [pk (sl_ln 23 57 3 9 ((L).map (rowT c)) ((L).length : Int)), pk (bF_eql 3 ((L).length : Int) 0), pk (bF_gtr 3 ((L).length : Int) 2000), po (hc), pa, pa, pk (bF_neq 3 z 0), pl (lo)] (by kernel_rfl)
      ·have lo := l1.1 h5
       rw [h6] at hpa
       exact sp_run (nt := 131) 1000 [pk (sl_ln 23 57 3 9 ((L).map (rowT c)) ((L).length : Int)), pk (bF_eql 3 ((L).length : Int) 0), pk (bF_gtr 3 ((L).length : Int) 2000), po (hc), pa, pa, pk (bF_neq 3 z 0), pl (lo), po (hli), po (hpa), pa] (by kernel_rfl)
      ·have lo := l1.1 h5
       have lo2 := (l2 (rpB_dn h6) (by omega)).2 h7
       rw [h6] at hpa
       generalize findc (fun j => bdC L (j + 1)) (L.length - 1) 0 = r at *
       exact sp_run (nt := 131) 1000 [pk (sl_ln 23 57 3 9 ((L).map (rowT c)) ((L).length : Int)), pk (bF_eql 3 ((L).length : Int) 0), pk (bF_gtr 3 ((L).length : Int) 2000), po (hc), pa, pa, pk (bF_neq 3 z 0), pl (lo), po (hli), po (hpa), pa, pl (lo2)] (by kernel_rfl)
      ·have lo := l1.1 h5
       have lo2 := (l2 (rpB_dn h6) (by omega)).1 h7
       rw [h6] at hpa
       by_cases h8 : findc (rsC L false z) L.length 0 = 0
       ·have lo3 := l3.1 h8
        rw [h8]
        exact sp_run (nt := 131) 1000 [pk (sl_ln 23 57 3 9 ((L).map (rowT c)) ((L).length : Int)), pk (bF_eql 3 ((L).length : Int) 0), pk (bF_gtr 3 ((L).length : Int) 2000), po (hc), pa, pa, pk (bF_neq 3 z 0), pl (lo), po (hli), po (hpa), pa, pl (lo2), pl (lo3)] (by kernel_rfl)
       ·have lo3 := l3.2 h8
        generalize findc (rsC L false z) L.length 0 = r at *
        exact sp_run (nt := 131) 1000 [pk (sl_ln 23 57 3 9 ((L).map (rowT c)) ((L).length : Int)), pk (bF_eql 3 ((L).length : Int) 0), pk (bF_gtr 3 ((L).length : Int) 2000), po (hc), pa, pa, pk (bF_neq 3 z 0), pl (lo), po (hli), po (hpa), pa, pl (lo2), pl (lo3)] (by kernel_rfl)
     ·rw [if_pos (.inr ⟨rfl, hz⟩)]
      exact sp_run (nt := 131) 1000 [pk (sl_ln 23 57 3 9 ((L).map (rowT c)) ((L).length : Int)), pk (bF_eql 3 ((L).length : Int) 0), pk (bF_gtr 3 ((L).length : Int) 2000), po (hc), pa, pa, pk (bT_neq 3 z 0)] (by kernel_rfl)
    | true =>
     rw [if_neg (by simp)]
     refine tail (fun h5 => ?_) (fun h5 h6 => ?_) (fun h5 h6 h7 => ?_) (fun h5 h6 h7 => ?_)
     ·have lo := l1.2 h5
      generalize findc (nchk L) L.length 0 = r at *
      exact sp_run (nt := 131) 1000 [pk (sl_ln 23 57 3 9 ((L).map (rowT c)) ((L).length : Int)), pk (bF_eql 3 ((L).length : Int) 0), pk (bF_gtr 3 ((L).length : Int) 2000), po (hc), pa, pa, pl (lo)] (by kernel_rfl)
     ·have lo := l1.1 h5
      rw [h6] at hpa
      exact sp_run (nt := 131) 1000 [pk (sl_ln 23 57 3 9 ((L).map (rowT c)) ((L).length : Int)), pk (bF_eql 3 ((L).length : Int) 0), pk (bF_gtr 3 ((L).length : Int) 2000), po (hc), pa, pa, pl (lo), po (hli), po (hpa), pa] (by kernel_rfl)
     ·have lo := l1.1 h5
      have lo2 := (l2 (rpB_dn h6) (by omega)).2 h7
      rw [h6] at hpa
      generalize findc (fun j => bdC L (j + 1)) (L.length - 1) 0 = r at *
      exact sp_run (nt := 131) 1000 [pk (sl_ln 23 57 3 9 ((L).map (rowT c)) ((L).length : Int)), pk (bF_eql 3 ((L).length : Int) 0), pk (bF_gtr 3 ((L).length : Int) 2000), po (hc), pa, pa, pl (lo), po (hli), po (hpa), pa, pl (lo2)] (by kernel_rfl)
     ·have lo := l1.1 h5
      have lo2 := (l2 (rpB_dn h6) (by omega)).1 h7
      rw [h6] at hpa
      by_cases h8 : findc (rsC L true z) L.length 0 = 0
      ·have lo3 := l3.1 h8
       rw [h8]
       exact sp_run (nt := 131) 1000 [pk (sl_ln 23 57 3 9 ((L).map (rowT c)) ((L).length : Int)), pk (bF_eql 3 ((L).length : Int) 0), pk (bF_gtr 3 ((L).length : Int) 2000), po (hc), pa, pa, pl (lo), po (hli), po (hpa), pa, pl (lo2), pl (lo3)] (by kernel_rfl)
      ·have lo3 := l3.2 h8
       generalize findc (rsC L true z) L.length 0 = r at *
       exact sp_run (nt := 131) 1000 [pk (sl_ln 23 57 3 9 ((L).map (rowT c)) ((L).length : Int)), pk (bF_eql 3 ((L).length : Int) 0), pk (bF_gtr 3 ((L).length : Int) 2000), po (hc), pa, pa, pl (lo), po (hli), po (hpa), pa, pl (lo2), pl (lo3)] (by kernel_rfl)
end
end Go.Proofs.YtflajoflpkboiaaGreat

/- The two Validates give the same code. -/
namespace Go.Proofs.YtflajoflpkboiaaGreat
open Go Go.RowKit
set_option linter.unusedVariables false
set_option linter.unusedSimpArgs false

theorem prB_ex {L : List Nd} {m : Nat} (h : prB L m = true) : (tat L (2 * m + 1)).par = ((pp L m : Nat) : Int) ∧ (tat L (2 * m + 2)).par = ((pp L m : Nat) : Int) ∧ pp L m ≤ 2 * m ∧ (tat L (2 * m + 2)).fst = (tat L (2 * m + 1)).fst ∧ (tat L (2 * m + 2)).nxt = (tat L (2 * m + 1)).nxt := by
 unfold prB at h
 simp only [Bool.and_eq_true, decide_eq_true_eq] at h
 obtain ⟨⟨⟨⟨⟨⟨⟨p1, p2⟩, p3⟩, p4⟩, p5⟩, _⟩, _⟩, _⟩ := h
 have e : dcn (tat L (2 * m + 2)) = ((tat L (2 * m + 1)).fst, (tat L (2 * m + 1)).nxt, false) := p5
 unfold dcn at e
 injection e with e1 e2
 injection e2 with e2 e3
 unfold pp
 refine ⟨by omega, by omega, by omega, e1, e2⟩
section
variable {L : List Nd} {M : Nat} (hn : L.length = 2 * M + 1) (hp : ∀ m, m < M → prB L m = true)
include hn hp
theorem dlt_path : ∀ m, m ≤ M → ∀ i, i ≤ 2 * m → iat (dlt L m) i = ((pathD L i).length : Int) := by
 intro m
 induction m with
 | zero =>
  intro _ i hi
  have : i = 0 := by omega
  subst this
  rw [dlt, iat_zero, pathD_zero]; rfl
 | succ m ih =>
  intro hm i hi
  obtain ⟨p1, p2, p3, _, _⟩ := prB_ex (hp m (by omega))
  have hl := dlt_len L m
  have hpp := ih (by omega) (pp L m) p3
  have ea : (pathD L (2 * m + 1)).length = (pathD L (pp L m)).length + 1 := by rw [pathD_step p1 (by omega), List.length_append]; rfl
  have eb : (pathD L (2 * m + 2)).length = (pathD L (pp L m)).length + 1 := by rw [pathD_step p2 (by omega), List.length_append]; rfl
  rw [dlt, iat_set (by rw [List.length_set]; omega), iat_set (by omega), if_pos rfl]
  by_cases h1 : 2 * m + 2 = i
  ·rw [if_pos h1, ← h1, eb, hpp]; omega
  ·rw [if_neg h1, iat_set (by omega)]
   by_cases h2 : 2 * m + 1 = i
   ·rw [if_pos h2, ← h2, ea, hpp]; omega
   ·rw [if_neg h2]; exact ih (by omega) i (by omega)
theorem dlt_at {m : Nat} (hm : m < M) : iat (dlt L (m + 1)) (2 * m + 1) = ((pathD L (2 * m + 1)).length : Int) := dlt_path hn hp (m + 1) (by omega) _ (by omega)
theorem clt_step {m : Nat} (hm : m < M) (i : Nat) : iat (clt L (m + 1)) i = if pp L m = i then iat (clt L m) i + 2 else iat (clt L m) i := by
 obtain ⟨p1, p2, p3, _, _⟩ := prB_ex (hp m hm)
 rw [clt, iat_set (by rw [clt_len]; omega)]
 by_cases h : pp L m = i
 ·rw [if_pos h, if_pos h, h]
 ·rw [if_neg h, if_neg h]
theorem clt_even : ∀ m, m ≤ M → ∀ i, iat (clt L m) i % 2 = 0 := by
 intro m
 induction m with
 | zero => intro _ i; rw [clt, iat_zero]; rfl
 | succ m ih =>
  intro hm i
  rw [clt_step hn hp (by omega)]
  have := ih (by omega) i
  split <;> omega
theorem clt_mono : ∀ m, m ≤ M → ∀ k, k ≤ m → ∀ i, iat (clt L k) i ≤ iat (clt L m) i := by
 intro m
 induction m with
 | zero => intro _ k hk i; exact (show k = 0 by omega) ▸ Int.le_refl _
 | succ m ih =>
  intro hm k hk i
  by_cases h : k = m + 1
  ·rw [h]; exact Int.le_refl _
  ·have := ih (by omega) k (by omega) i
   rw [clt_step hn hp (by omega)]
   split <;> omega
theorem clt_two (h : ∀ m, m < M → iat (clt L (m + 1)) (pp L m) ≤ 2) : ∀ m, m ≤ M → ∀ i, iat (clt L m) i ≤ 2 := by
 intro m
 induction m with
 | zero => intro _ i; rw [clt, iat_zero]; omega
 | succ m ih =>
  intro hm i
  by_cases hi : pp L m = i
  ·rw [← hi]; exact h m (by omega)
  ·rw [clt_step hn hp (by omega), if_neg hi]; exact ih (by omega) i
end
/-! ### no decision twice -/
def noTwin (D : List De) : Prop := D.Pairwise fun a b => ¬ (a.1 = b.1 ∧ a.2.1 = b.2.1)
theorem dat_get {D : List De} {i : Nat} (h : i < D.length) : dat D i = D[i] := by unfold dat; rw [List.getD_eq_getElem?_getD, List.getElem?_eq_getElem h]; rfl
theorem inC_iff {D : List De} {k j : Nat} : inC D k j = 0 ↔ ¬ ((dat D j).1 = (dat D k).1 ∧ (dat D j).2.1 = (dat D k).2.1) := by
 unfold inC twin
 by_cases h1 : (dat D k).1 = (dat D j).1
 ·by_cases h2 : (dat D k).2.1 = (dat D j).2.1
  ·simp [h1, h2]
  ·simp [h1, h2, Ne.symm h2]
 ·simp [h1, Ne.symm h1]
theorem twins_iff {D : List De} : findc (miC D) D.length 0 = 0 ↔ noTwin D := by
 unfold noTwin
 rw [findc_zero, List.pairwise_iff_getElem]
 constructor
 ·intro h i j hi hj hij
  have h1 := h j (Nat.zero_le _) (by omega)
  unfold miC at h1
  rw [findc_zero] at h1
  have h2 := inC_iff.1 (h1 i (Nat.zero_le _) (by omega))
  rw [dat_get hi, dat_get hj] at h2
  exact h2
 ·intro h k _ hk
  unfold miC
  rw [findc_zero]
  intro j _ hj
  rw [inC_iff, dat_get (by omega), dat_get (by omega)]
  exact h j k (by omega) (by omega) (by omega)
theorem noTwin_snoc {D : List De} {x : De} : noTwin (D ++ [x]) ↔ noTwin D ∧ ∀ d ∈ D, ¬ (d.1 = x.1 ∧ d.2.1 = x.2.1) := by
 unfold noTwin
 rw [List.pairwise_append]
 constructor
 ·rintro ⟨h1, _, h3⟩
  exact ⟨h1, fun d hd => h3 d hd x (by simp)⟩
 ·rintro ⟨h1, h2⟩
  refine ⟨h1, by simp, fun d hd y hy => ?_⟩
  simp at hy
  subst hy
  exact h2 d hd
theorem decB_iff {L : List Nd} {i : Nat} {f n : Int} : decB L i f n = false ↔ ∀ d ∈ pathD L i, ¬ (d.1 = f ∧ d.2.1 = n) := by
 unfold decB pathD updec
 rw [List.any_eq_false]
 constructor
 ·intro h d hd
  rw [List.mem_reverse, List.mem_map] at hd
  obtain ⟨x, hx, rfl⟩ := hd
  have := h x hx
  simp at this
  exact fun hh => this hh.1 hh.2
 ·intro h x hx
  have := h (dcn (tat L x)) (by rw [List.mem_reverse, List.mem_map]; exact ⟨x, hx, rfl⟩)
  simp
  exact fun h1 h2 => this ⟨h1, h2⟩
theorem ouC_iff {L : List Nd} {M : Nat} (hn : L.length = 2 * M + 1) {i : Nat} (hi : i < L.length) : ouC L i = 0 ↔ iat (clt L M) i ≤ 2 ∧ ((tat L i).st = 1 ↔ iat (clt L M) i = 2) ∧ (pathD L i).length ≤ 32 ∧ noTwin (pathD L i) := by
 have hM2 : L.length / 2 = M := by omega
 unfold ouC cpC
 rw [hM2, ← twins_iff]
 by_cases h1 : 2 < iat (clt L M) i
 ·rw [if_pos h1, if_pos (by decide)]
  exact ⟨fun h => by omega, fun h => by omega⟩
 ·rw [if_neg h1]
  by_cases h2 : decide ((tat L i).st = 1) = decide (iat (clt L M) i = 2)
  ·rw [if_pos h2, if_neg (by simp)]
   have h2' : (tat L i).st = 1 ↔ iat (clt L M) i = 2 := by simpa using h2
   by_cases h3 : 32 < (pathD L i).length
   ·rw [if_pos h3]
    exact ⟨fun h => by omega, fun h => by omega⟩
   ·rw [if_neg h3]
    exact ⟨fun h => ⟨by omega, h2', by omega, h⟩, fun h => h.2.2.2⟩
  ·rw [if_neg h2, if_pos (by decide)]
   exact ⟨fun h => by omega, fun h => absurd (by simpa using h.2.1) h2⟩
section
variable {L : List Nd} {M : Nat} (hn : L.length = 2 * M + 1) (hp : ∀ m, m < M → prB L m = true)
include hn hp
theorem twins_all : (∀ i, i < L.length → noTwin (pathD L i)) ↔ ∀ m, m < M → decB L (pp L m) (tat L (2 * m + 1)).fst (tat L (2 * m + 1)).nxt = false := by
 constructor
 ·intro h m hm
  obtain ⟨p1, p2, p3, _, _⟩ := prB_ex (hp m hm)
  have := h (2 * m + 1) (by omega)
  rw [pathD_step p1 (by omega), noTwin_snoc] at this
  exact decB_iff.2 this.2
 ·intro h i
  induction i using Nat.strongRecOn with
  | _ i ih =>
   intro hi
   by_cases h0 : i = 0
   ·subst h0; rw [pathD_zero]; exact List.Pairwise.nil
   ·obtain ⟨m, hm⟩ : ∃ m, i = 2 * m + 1 ∨ i = 2 * m + 2 := ⟨(i - 1) / 2, by omega⟩
    have hmM : m < M := by omega
    obtain ⟨p1, p2, p3, p4, p5⟩ := prB_ex (hp m hmM)
    have hd := decB_iff.1 (h m hmM)
    rcases hm with rfl | rfl
    ·rw [pathD_step p1 (by omega), noTwin_snoc]
     exact ⟨ih _ (by omega) (by omega), hd⟩
    ·rw [pathD_step p2 (by omega), noTwin_snoc]
     refine ⟨ih _ (by omega) (by omega), fun d hd' => ?_⟩
     have := hd d hd'
     show ¬ (d.1 = (tat L (2 * m + 2)).fst ∧ d.2.1 = (tat L (2 * m + 2)).nxt)
     rw [p4, p5]
     exact this
theorem bounds_all : (∀ j, j < L.length - 1 → bdC L (j + 1) = 0) ↔ ∀ m, m < M → (tat L (pp L m)).q ≤ (tat L (2 * m + 1)).q ∧ (tat L (pp L m)).q ≤ (tat L (2 * m + 2)).q := by
 have key : ∀ i p : Nat, (tat L i).par = (p : Int) → (bdC L i = 0 ↔ (tat L p).q ≤ (tat L i).q) := by
  intro i p h
  unfold bdC
  rw [show (tat L i).par.toNat = p by omega]
  by_cases hq : (tat L i).q < (tat L p).q
  ·rw [if_pos hq]
   exact ⟨fun h => by omega, fun h => by exfalso; grind⟩
  ·rw [if_neg hq]
   exact ⟨fun _ => by grind, fun _ => rfl⟩
 constructor
 ·intro h m hm
  obtain ⟨p1, p2, p3, _, _⟩ := prB_ex (hp m hm)
  exact ⟨(key _ _ p1).1 (h (2 * m) (by omega)), (key _ _ p2).1 (h (2 * m + 1) (by omega))⟩
 ·intro h j hj
  obtain ⟨m, hm⟩ : ∃ m, j = 2 * m ∨ j = 2 * m + 1 := ⟨j / 2, by omega⟩
  have hmM : m < M := by omega
  obtain ⟨p1, p2, p3, _, _⟩ := prB_ex (hp m hmM)
  rcases hm with rfl | rfl
  ·exact (key _ _ p1).2 (h m hmM).1
  ·exact (key _ _ p2).2 (h m hmM).2
theorem shape_iff : ((∀ m, m < M → spB L m = true) ∧ ∀ i, i < L.length → chB L i = true) ↔ ((∀ i, i < L.length → ouC L i = 0) ∧ ∀ j, j < L.length - 1 → bdC L (j + 1) = 0) := by
 have hM2 : L.length / 2 = M := by omega
 have sp : ∀ m, m < M → (spB L m = true ↔ ((pathD L (2 * m + 1)).length : Int) ≤ 32 ∧ iat (clt L (m + 1)) (pp L m) ≤ 2 ∧ decB L (pp L m) (tat L (2 * m + 1)).fst (tat L (2 * m + 1)).nxt = false ∧ (tat L (pp L m)).q ≤ (tat L (2 * m + 1)).q ∧ (tat L (pp L m)).q ≤ (tat L (2 * m + 2)).q) := by
  intro m hm
  unfold spB
  rw [dlt_at hn hp hm]
  simp only [Bool.and_eq_true, decide_eq_true_eq, Bool.not_eq_true']
  exact ⟨fun ⟨⟨⟨⟨a, b⟩, c⟩, d⟩, e⟩ => ⟨a, b, c, d, e⟩, fun ⟨a, b, c, d, e⟩ => ⟨⟨⟨⟨a, b⟩, c⟩, d⟩, e⟩⟩
 have ch : ∀ i, (chB L i = true ↔ ((tat L i).st = 1 ↔ 0 < iat (clt L M) i)) := by
  intro i
  unfold chB
  rw [hM2]
  by_cases h1 : (tat L i).st = 1 <;> by_cases h2 : 0 < iat (clt L M) i <;> simp [h1, h2]
 have two : ∀ i, iat (clt L M) i ≤ 2 → (0 < iat (clt L M) i ↔ iat (clt L M) i = 2) := by
  intro i h
  have h1 := clt_even hn hp M (Nat.le_refl _) i
  have h2 := (clt_le L M i).1
  omega
 rw [bounds_all hn hp]
 constructor
 ·rintro ⟨h1, h2⟩
  have hs := fun m hm => (sp m hm).1 (h1 m hm)
  have c2 := clt_two hn hp (fun m hm => (hs m hm).2.1) M (Nat.le_refl _)
  have tw := (twins_all hn hp).2 fun m hm => (hs m hm).2.2.1
  refine ⟨fun i hi => (ouC_iff hn hi).2 ⟨c2 i, ?_, ?_, tw i hi⟩, fun m hm => (hs m hm).2.2.2⟩
  ·rw [← two i (c2 i)]; exact (ch i).1 (h2 i hi)
  ·by_cases h0 : i = 0
   ·subst h0; rw [pathD_zero]; exact Nat.zero_le _
   ·obtain ⟨m, hm⟩ : ∃ m, i = 2 * m + 1 ∨ i = 2 * m + 2 := ⟨(i - 1) / 2, by omega⟩
    have hmM : m < M := by omega
    obtain ⟨p1, p2, p3, p4, p5⟩ := prB_ex (hp m hmM)
    have := (hs m hmM).1
    rcases hm with rfl | rfl
    ·omega
    ·have ea : (pathD L (2 * m + 1)).length = (pathD L (pp L m)).length + 1 := by rw [pathD_step p1 (by omega), List.length_append]; rfl
     have eb : (pathD L (2 * m + 2)).length = (pathD L (pp L m)).length + 1 := by rw [pathD_step p2 (by omega), List.length_append]; rfl
     omega
 ·rintro ⟨h1, h2⟩
  have ho := fun i hi => (ouC_iff hn (i := i) hi).1 (h1 i hi)
  have tw := (twins_all hn hp).1 fun i hi => (ho i hi).2.2.2
  refine ⟨fun m hm => (sp m hm).2 ⟨?_, ?_, tw m hm, h2 m hm⟩, fun i hi => (ch i).2 ?_⟩
  ·have := (ho (2 * m + 1) (by omega)).2.2.1
   omega
  ·obtain ⟨p1, p2, p3, p4, p5⟩ := prB_ex (hp m hm)
   have := (ho (pp L m) (by omega)).1
   have := clt_mono hn hp M (Nat.le_refl _) (m + 1) (by omega) (pp L m)
   omega
  ·rw [two i (ho i hi).1]; exact (ho i hi).2.1
end
theorem shB_iff {L : List Nd} : shB L = true ↔ (rpB L = true ∧ findc (fun j => bdC L (j + 1)) (L.length - 1) 0 = 0) := by
 unfold shB rpB
 simp only [Bool.and_eq_true, List.all_eq_true, List.mem_range, decide_eq_true_eq, findc_zero]
 constructor
 ·rintro ⟨⟨h1, h2⟩, h3⟩
  have hr := h1
  unfold rtB at hr
  simp only [Bool.and_eq_true, decide_eq_true_eq] at hr
  have hn : L.length = 2 * (L.length / 2) + 1 := by omega
  have := (shape_iff hn (fun m hm => (h2 m hm).1)).1 ⟨fun m hm => (h2 m hm).2, h3⟩
  exact ⟨⟨⟨h1, fun m hm => (h2 m hm).1⟩, fun j _ hj => this.1 j (by omega)⟩, fun j _ hj => this.2 j (by omega)⟩
 ·rintro ⟨⟨⟨h1, h2⟩, h3⟩, h4⟩
  have hr := h1
  unfold rtB at hr
  simp only [Bool.and_eq_true, decide_eq_true_eq] at hr
  have hn : L.length = 2 * (L.length / 2) + 1 := by omega
  have := (shape_iff hn h2).2 ⟨fun i hi => h3 i (Nat.zero_le _) (by omega), fun j hj => h4 j (Nat.zero_le _) (by omega)⟩
  exact ⟨⟨h1, fun m hm => ⟨h2 m hm, this.1 m hm⟩⟩, this.2⟩
theorem findc_congr {a b : Nat → Int} : ∀ {n i : Nat}, (∀ j, i ≤ j → j < i + n → a j = b j) → findc a n i = findc b n i
 | 0, _, _ => rfl
 | n + 1, i, h => by
  unfold findc
  rw [h i (Nat.le_refl _) (by omega), findc_congr fun j h1 h2 => h j (by omega) (by omega)]
theorem rvc_eq (L : List Nd) (f : Bool) (z : Int) : rvc L f z = tvc L f z := by
 unfold rvc tvc
 by_cases h1 : L.length < 1 ∨ 2000 < L.length
 ·rw [if_pos h1, if_pos h1]
 ·rw [if_neg h1, if_neg h1]
  by_cases h2 : costB z = false ∨ (z ≠ 0 ∧ f = false)
  ·rw [if_pos h2, if_pos (h2.imp id And.symm)]
  ·rw [if_neg h2, if_neg (fun h => h2 (h.imp id And.symm))]
   by_cases h3 : findc (nchk L) L.length 0 ≠ 0
   ·rw [if_pos h3, if_pos h3]
   ·rw [if_neg h3, if_neg h3]
    have h3 : findc (nchk L) L.length 0 = 0 := Decidable.not_not.1 h3
    have hst : findc (rsC L f z) L.length 0 = findc (schk L f z) L.length 0 := findc_congr fun j _ hj => by
     have ho := findc_zero.1 h3 j (Nat.zero_le _) hj
     have hok : okc (tat L j).q = true := by
      unfold nchk at ho
      split at ho
      ·omega
      ·cases hk : okc (tat L j).q with
       | true => rfl
       | false => rw [hk] at ho; exact absurd ho (by decide)
     unfold rsC schk betB setB
     rw [hok, Bool.true_and]
    have hs := shB_iff (L := L)
    cases hr : rpB L with
    | false =>
     rw [if_pos rfl]
     have : shB L = false := by
      cases hsb : shB L with
      | false => rfl
      | true => have := (hs.1 hsb).1; rw [hr] at this; cases this
     rw [this, if_pos rfl]
    | true =>
     rw [if_neg (by decide)]
     by_cases hb : findc (fun j => bdC L (j + 1)) (L.length - 1) 0 = 0
     ·rw [if_neg (fun h => h hb), hs.2 ⟨hr, hb⟩, if_neg (by decide), hst]
     ·have : shB L = false := by
       cases hsb : shB L with
       | false => rfl
       | true => exact absurd (hs.1 hsb).2 hb
      rw [if_pos hb, this, if_pos rfl]
      obtain ⟨j, _, _, _, hj⟩ := findc_at hb
      rw [← hj]
      exact bdC_12 (by rw [hj]; exact hb)
end Go.Proofs.YtflajoflpkboiaaGreat

/- The reference's Next, Bound, Decisions; equality of trees and of decisions. -/
namespace Go.Proofs.YtflajoflpkboiaaGreat
open Go Go.RowKit
set_option linter.unusedVariables false
set_option linter.unusedSimpArgs false

/-- the best open node among the first i -/
def nxO (L : List Nd) : Nat → Option Nat
 | 0 => none
 | i + 1 => match nxO L i with
  | none => if (tat L i).st = 0 then some i else none
  | some j => if (tat L i).st = 0 ∧ (tat L i).q < (tat L j).q then some i else some j
def oI : Option Nat → Int
 | none => -1
 | some j => (j : Int)
theorem nxI_eq (L : List Nd) : ∀ i, nxI L i = oI (nxO L i)
 | 0 => rfl
 | i + 1 => by
  rw [nxI, nxO, nxI_eq L i]
  cases nxO L i with
  | none =>
   by_cases h : (tat L i).st = 0
   ·simp [oI, h]
   ·simp [oI, h]
  | some j =>
   by_cases h : (tat L i).st = 0
   ·by_cases h2 : (tat L i).q < (tat L j).q
    ·simp [oI, h, h2]
    ·have h3 : ¬ ((j : Int) < 0) := by omega
     simp [oI, h, h2, h3]
   ·simp [oI, h]
theorem bdO_none (L : List Nd) : ∀ i, bdO L none i = (nxO L i).map fun j => (tat L j).q
 | 0 => rfl
 | i + 1 => by
  rw [bdO, nxO, bdO_none L i]
  cases nxO L i with
  | none =>
   dsimp only [Option.map_none]
   by_cases h : (tat L i).st = 0
   ·rw [if_pos h, if_pos h]; rfl
   ·rw [if_neg h, if_neg h]; rfl
  | some j =>
   dsimp only [Option.map_some]
   by_cases h : (tat L i).st = 0 ∧ (tat L i).q < (tat L j).q
   ·rw [if_pos h, if_pos h]; rfl
   ·rw [if_neg h, if_neg h]; rfl
def mnO (z : Rat) (L : List Nd) : Option Nat → Rat
 | none => z
 | some j => if (tat L j).q ≤ z then (tat L j).q else z
theorem bdO_some (L : List Nd) (z : Rat) : ∀ i, bdO L (some z) i = some (mnO z L (nxO L i))
 | 0 => rfl
 | i + 1 => by
  rw [bdO, nxO, bdO_some L z i]
  cases nxO L i with
  | none =>
   dsimp only [mnO]
   by_cases h : (tat L i).st = 0
   ·rw [if_pos h]
    dsimp only [mnO]
    by_cases h2 : (tat L i).q < z
    ·rw [if_pos ⟨h, h2⟩, if_pos (by grind)]
    ·rw [if_neg (fun hh => h2 hh.2)]
     by_cases h3 : (tat L i).q ≤ z
     ·rw [if_pos h3]; congr 1; grind
     ·rw [if_neg h3]
   ·rw [if_neg (fun hh => h hh.1), if_neg h]
  | some j =>
   dsimp only [mnO]
   by_cases h : (tat L i).st = 0
   ·by_cases h2 : (tat L i).q < (tat L j).q
    ·rw [if_pos (⟨h, h2⟩ : (tat L i).st = 0 ∧ (tat L i).q < (tat L j).q)]
     dsimp only [mnO]
     by_cases h3 : (tat L j).q ≤ z
     ·rw [if_pos h3, if_pos ⟨h, h2⟩, if_pos (by grind)]
     ·rw [if_neg h3]
      by_cases h4 : (tat L i).q < z
      ·rw [if_pos ⟨h, h4⟩, if_pos (by grind)]
      ·rw [if_neg (fun hh => h4 hh.2)]
       by_cases h5 : (tat L i).q ≤ z
       ·rw [if_pos h5]; congr 1; grind
       ·rw [if_neg h5]
    ·rw [if_neg (fun hh : (tat L i).st = 0 ∧ (tat L i).q < (tat L j).q => h2 hh.2)]
     dsimp only [mnO]
     by_cases h3 : (tat L j).q ≤ z
     ·rw [if_pos h3, if_neg (fun hh => h2 hh.2)]
     ·rw [if_neg h3, if_neg (fun hh => by have := hh.2; grind)]
   ·rw [if_neg (fun hh : (tat L i).st = 0 ∧ (tat L i).q < (tat L j).q => h hh.1), if_neg (fun hh => h hh.1)]
section
variable {I : WInv} {c c' : Bool}

def nxRes : Option Nat → TV
 | none => .tu [ci 0, .one (.b (.lit (.bool false)))]
 | some j => .tu [ci (j : Int), .one (.b (.lit (.bool true)))]
def nxJ (L : List Nd) : Option Nat := nxO L L.length
/-- Next of the program, in the same form -/
theorem tnext_sp2 (L : List Nd) (f : Bool) (z : Int) (h : tvc L f z = 0) : Sp Tryz.prog I 22 [trT c L f z] (nxRes (nxJ L)) := by
 have hs := tnext_sp (I := I) (c := c) L f z h
 rw [nxI_eq] at hs
 unfold nxJ
 cases ho : nxO L L.length with
 | none => rw [ho] at hs; exact hs
 | some j =>
  rw [ho] at hs
  rw [show max (oI (some j)) 0 = (j : Int) by show max (j : Int) 0 = j; omega, show decide (oI (some j) ≥ 0) = true from decide_eq_true (by show (j : Int) ≥ 0; omega)] at hs
  exact hs

end
end Go.Proofs.YtflajoflpkboiaaGreat

/- Equality of fractions, trees and decisions; the reference's Copy and New. -/
namespace Go.Proofs.YtflajoflpkboiaaGreat
open Go Go.RowKit
set_option linter.unusedVariables false
set_option linter.unusedSimpArgs false

section
variable {I : WInv} {c c' : Bool} {q : Rat}

theorem same25 : Sp Tryz.prog I 28 [fc true 12 q, fc true 12 q] (lb true) := by
 have h : Sp Tryz.prog I 28 [.ag (ik 12 q.num ++ ik 12 (q.den : Int)), .ag (ik 12 q.num ++ ik 12 (q.den : Int))] (lb true) := sp_run (nt := 17) 1000 [po (rsameK (I := I) (k := 12) (j := 12) (a := q.num) (b := q.num) true (decide_eq_true rfl)), po (rsameK (I := I) (k := 12) (j := 12) (a := (q.den : Int)) (b := (q.den : Int)) true (decide_eq_true rfl))] (by kernel_rfl)
 exact h.wk ⟨fc_fk2, fc_fk2, trivial⟩
/-! ### Copy and New -/

def copst (c : Bool) (L : List Nd) (f : Bool) (z : Int) : Nat → Go.Proofs.YtflajoflpkboiaaGreat.St
 | 0 => ⟨[(1, .cv (.one (.ptr 3 0))), (2, .cv (.one (.ptr 4 0))), (3, .cv (.one (.ptr 10 0))), (4, .cv (.one (.b (.lit (.int .i64 ((0 : Nat) : Int))))))], [(10, some ⟨25, none, [.b (.lit (.slice none 0 0)), .b (.lit (.bool f)), .b (.lit (.int .i64 z))]⟩), (3, some ⟨25, none, [.b (.it (slI 9 ((L).map (rowT c)))), .b (.lit (.bool f)), .b (.lit (.int .i64 z))]⟩), (4, some ⟨25, none, [.b (.lit (.slice none 0 0)), .b (.lit (.bool false)), .b (.lit (.int .i64 0))]⟩)], 50⟩
 | i + 1 => ⟨[(1, .cv (.one (.ptr 3 0))), (2, .cv (.one (.ptr 4 0))), (3, .cv (.one (.ptr 10 0))), (4, .cv (.one (.b (.lit (.int .i64 ((i + 1 : Nat) : Int))))))], [(40, some ⟨57, some (9, i + 1), flatR ((fst' L id (i + 1)).map (rowT true))⟩), (10, some ⟨25, none, [.sl 40, .b (.lit (.bool f)), .b (.lit (.int .i64 z))]⟩), (3, some ⟨25, none, [.b (.it (slI 9 ((L).map (rowT c)))), .b (.lit (.bool f)), .b (.lit (.int .i64 z))]⟩), (4, some ⟨25, none, [.b (.lit (.slice none 0 0)), .b (.lit (.bool false)), .b (.lit (.int .i64 0))]⟩)], 50⟩
theorem copy_round (L : List Nd) (f : Bool) (z : Int) (i : Nat) (hi : i < L.length) (hl : L.length ≤ 2002) : Rnd Tryz.prog I 34 (loopC Tryz.prog 40 0) (copst c L f z i) .normal (copst c L f z (i + 1)) := by
 cases i with
 | zero =>
  obtain ⟨i, h0⟩ : ∃ i, i = 0 := ⟨0, rfl⟩
  have e1 : fst' L id 0 = [] := rfl
  show Rnd Tryz.prog I _ _ ⟨[(1, .cv (.one (.ptr 3 0))), (2, .cv (.one (.ptr 4 0))), (3, .cv (.one (.ptr 10 0))), (4, .cv (.one (.b (.lit (.int .i64 ((0 : Nat) : Int))))))], [(10, some ⟨25, none, [.b (.lit (.slice none 0 0)), .b (.lit (.bool f)), .b (.lit (.int .i64 z))]⟩), (3, some ⟨25, none, [.b (.it (slI 9 ((L).map (rowT c)))), .b (.lit (.bool f)), .b (.lit (.int .i64 z))]⟩), (4, some ⟨25, none, [.b (.lit (.slice none 0 0)), .b (.lit (.bool false)), .b (.lit (.int .i64 0))]⟩)], 50⟩ _ ⟨[(1, .cv (.one (.ptr 3 0))), (2, .cv (.one (.ptr 4 0))), (3, .cv (.one (.ptr 10 0))), (4, .cv (.one (.b (.lit (.int .i64 ((0 + 1 : Nat) : Int))))))], [(40, some ⟨57, some (9, 1), flatR ((fst' L id (0 + 1)).map (rowT true))⟩), (10, some ⟨25, none, [.sl 40, .b (.lit (.bool f)), .b (.lit (.int .i64 z))]⟩), (3, some ⟨25, none, [.b (.it (slI 9 ((L).map (rowT c)))), .b (.lit (.bool f)), .b (.lit (.int .i64 z))]⟩), (4, some ⟨25, none, [.b (.lit (.slice none 0 0)), .b (.lit (.bool false)), .b (.lit (.int .i64 0))]⟩)], 50⟩
  exact Rnd.nam [(40, 71)] (show Rnd _ _ _ _ _ _ ⟨[(1, .cv (.one (.ptr 3 0))), (2, .cv (.one (.ptr 4 0))), (3, .cv (.one (.ptr 10 0))), (4, .cv (.one (.b (.lit (.int .i64 ((0 + 1 : Nat) : Int))))))], [(71, some ⟨57, some (9, 1), [.b (.lit (.int .i64 ((tat L 0).par))), .b (.lit (.int .i64 ((tat L 0).fst))), .b (.lit (.int .i64 ((tat L 0).nxt))), .b (.lit (.bool ((tat L 0).tog))), .b (.it (fF true 12 ((tat L 0).q))), .b (.lit (.int .i64 ((tat L 0).st)))]⟩), (10, some ⟨25, none, [.sl 71, .b (.lit (.bool f)), .b (.lit (.int .i64 z))]⟩), (3, some ⟨25, none, [.b (.it (slI 9 ((L).map (rowT c)))), .b (.lit (.bool f)), .b (.lit (.int .i64 z))]⟩), (4, some ⟨25, none, [.b (.lit (.slice none 0 0)), .b (.lit (.bool false)), .b (.lit (.int .i64 0))]⟩)], 77⟩ from rnd_run 1000 [pk (sl_ln 23 57 3 9 ((L).map (rowT c)) ((L).length : Int)), pk (bT_lss 3 0 ((L).length : Int)), pk (sl_ix 23 57 9 ((L).map (rowT c)) 0 0 ((rowT c) (tat L 0)) (tat_row hi)), po (canon25F (I := I) (c := c) (k := 12) (p := (tat L 0).q) (by omega)), ⟨.ap 0 1 104, ⟨by omega, by simp only [maxLen]; omega⟩⟩, pa] (by kernel_rfl)) (t := ⟨[(1, .cv (.one (.ptr 3 0))), (2, .cv (.one (.ptr 4 0))), (3, .cv (.one (.ptr 10 0))), (4, .cv (.one (.b (.lit (.int .i64 ((0 + 1 : Nat) : Int))))))], [(40, some ⟨57, some (9, 1), flatR ((fst' L id (0 + 1)).map (rowT true))⟩), (10, some ⟨25, none, [.sl 40, .b (.lit (.bool f)), .b (.lit (.int .i64 z))]⟩), (3, some ⟨25, none, [.b (.it (slI 9 ((L).map (rowT c)))), .b (.lit (.bool f)), .b (.lit (.int .i64 z))]⟩), (4, some ⟨25, none, [.b (.lit (.slice none 0 0)), .b (.lit (.bool false)), .b (.lit (.int .i64 0))]⟩)], 50⟩) ⟨rfl, TVle.refl, rfl, TVle.refl, rfl, TVle.refl, rfl, TVle.refl, trivial⟩ ⟨rfl, rfl, rfl, ILe.eq (show [.b (.lit (.int .i64 ((tat L 0).par))), .b (.lit (.int .i64 ((tat L 0).fst))), .b (.lit (.int .i64 ((tat L 0).nxt))), .b (.lit (.bool ((tat L 0).tog))), .b (.it (fF true 12 ((tat L 0).q))), .b (.lit (.int .i64 ((tat L 0).st)))] = flatR ((fst' L id (0 + 1)).map (rowT true)) from rfl), rfl, rfl, rfl, ILe.refl, rfl, rfl, rfl, ILe.refl, rfl, rfl, rfl, ILe.refl, trivial⟩
 | succ i =>
  show Rnd Tryz.prog I _ _ ⟨[(1, .cv (.one (.ptr 3 0))), (2, .cv (.one (.ptr 4 0))), (3, .cv (.one (.ptr 10 0))), (4, .cv (.one (.b (.lit (.int .i64 ((i + 1 : Nat) : Int))))))], [(40, some ⟨57, some (9, i + 1), flatR ((fst' L id (i + 1)).map (rowT true))⟩), (10, some ⟨25, none, [.sl 40, .b (.lit (.bool f)), .b (.lit (.int .i64 z))]⟩), (3, some ⟨25, none, [.b (.it (slI 9 ((L).map (rowT c)))), .b (.lit (.bool f)), .b (.lit (.int .i64 z))]⟩), (4, some ⟨25, none, [.b (.lit (.slice none 0 0)), .b (.lit (.bool false)), .b (.lit (.int .i64 0))]⟩)], 50⟩ _ ⟨[(1, .cv (.one (.ptr 3 0))), (2, .cv (.one (.ptr 4 0))), (3, .cv (.one (.ptr 10 0))), (4, .cv (.one (.b (.lit (.int .i64 ((i + 1 + 1 : Nat) : Int))))))], [(40, some ⟨57, some (9, i + 1 + 1), flatR ((fst' L id (i + 1 + 1)).map (rowT true))⟩), (10, some ⟨25, none, [.sl 40, .b (.lit (.bool f)), .b (.lit (.int .i64 z))]⟩), (3, some ⟨25, none, [.b (.it (slI 9 ((L).map (rowT c)))), .b (.lit (.bool f)), .b (.lit (.int .i64 z))]⟩), (4, some ⟨25, none, [.b (.lit (.slice none 0 0)), .b (.lit (.bool false)), .b (.lit (.int .i64 0))]⟩)], 50⟩
  exact Rnd.nam [(40, 71)] (show Rnd _ _ _ _ _ _ ⟨[(1, .cv (.one (.ptr 3 0))), (2, .cv (.one (.ptr 4 0))), (3, .cv (.one (.ptr 10 0))), (4, .cv (.one (.b (.lit (.int .i64 ((i + 1 + 1 : Nat) : Int))))))], [(71, some ⟨57, some (9, i + 1 + 1), (flatR ((fst' L id (i + 1)).map (rowT true))) ++ ([.b (.lit (.int .i64 ((tat L (i + 1)).par))), .b (.lit (.int .i64 ((tat L (i + 1)).fst))), .b (.lit (.int .i64 ((tat L (i + 1)).nxt))), .b (.lit (.bool ((tat L (i + 1)).tog))), .b (.it (fF true 12 ((tat L (i + 1)).q))), .b (.lit (.int .i64 ((tat L (i + 1)).st)))])⟩), (10, some ⟨25, none, [.sl 71, .b (.lit (.bool f)), .b (.lit (.int .i64 z))]⟩), (3, some ⟨25, none, [.b (.it (slI 9 ((L).map (rowT c)))), .b (.lit (.bool f)), .b (.lit (.int .i64 z))]⟩), (4, some ⟨25, none, [.b (.lit (.slice none 0 0)), .b (.lit (.bool false)), .b (.lit (.int .i64 0))]⟩)], 77⟩ from rnd_run 1000 [pk (sl_ln 23 57 3 9 ((L).map (rowT c)) ((L).length : Int)), pk (bT_lss 3 ((i + 1 : Nat) : Int) ((L).length : Int)), pk (sl_ix 23 57 9 ((L).map (rowT c)) (i + 1) ((i + 1 : Nat) : Int) ((rowT c) (tat L (i + 1))) (tat_row hi)), po (canon25F (I := I) (c := c) (k := 12) (p := (tat L (i + 1)).q) (by omega)), ⟨.ap (i + 1) 1 104, ⟨by omega, by simp only [maxLen]; omega⟩⟩, pk (b_add 3 ((i + 1 : Nat) : Int) 1 ⟨by omega, by omega⟩)] (by kernel_rfl)) (t := ⟨[(1, .cv (.one (.ptr 3 0))), (2, .cv (.one (.ptr 4 0))), (3, .cv (.one (.ptr 10 0))), (4, .cv (.one (.b (.lit (.int .i64 ((i + 1 + 1 : Nat) : Int))))))], [(40, some ⟨57, some (9, i + 1 + 1), flatR ((fst' L id (i + 1 + 1)).map (rowT true))⟩), (10, some ⟨25, none, [.sl 40, .b (.lit (.bool f)), .b (.lit (.int .i64 z))]⟩), (3, some ⟨25, none, [.b (.it (slI 9 ((L).map (rowT c)))), .b (.lit (.bool f)), .b (.lit (.int .i64 z))]⟩), (4, some ⟨25, none, [.b (.lit (.slice none 0 0)), .b (.lit (.bool false)), .b (.lit (.int .i64 0))]⟩)], 50⟩) ⟨rfl, TVle.refl, rfl, TVle.refl, rfl, TVle.refl, rfl, TVle.refl, trivial⟩ ⟨rfl, rfl, rfl, ILe.eq (show (flatR ((fst' L id (i + 1)).map (rowT true))) ++ ([.b (.lit (.int .i64 ((tat L (i + 1)).par))), .b (.lit (.int .i64 ((tat L (i + 1)).fst))), .b (.lit (.int .i64 ((tat L (i + 1)).nxt))), .b (.lit (.bool ((tat L (i + 1)).tog))), .b (.it (fF true 12 ((tat L (i + 1)).q))), .b (.lit (.int .i64 ((tat L (i + 1)).st)))]) = flatR ((fst' L id (i + 1 + 1)).map (rowT true)) from (by rw [fst'_succ L id (i + 1), List.map_append, flatR_app]; rfl)), rfl, rfl, rfl, ILe.refl, rfl, rfl, rfl, ILe.refl, rfl, rfl, rfl, ILe.refl, trivial⟩

theorem copy_spm (L : List Nd) (f : Bool) (z : Int) (h0 : 0 < L.length) (hl : L.length ≤ 2002) : SpM Tryz.prog I 40 [] [trT c L f z] [(2, some (nbx true L L.length))] (.cv (.ag [.sl 2, .b (.lit (.bool f)), .b (.lit (.int .i64 z))])) := by
 have lo : LoopTr Tryz.prog I 34 (loopC Tryz.prog 40 0) (copst c L f z 0) (.exit 0) ⟨[(2, .cv (.one (.ptr 4 0))), (3, .cv (.one (.ptr 10 0)))], [(40, some ⟨57, some (9, L.length), flatR ((L).map (rowT true))⟩), (10, some ⟨25, none, [.sl 40, .b (.lit (.bool f)), .b (.lit (.int .i64 z))]⟩), (4, some ⟨25, none, [.b (.lit (.slice none 0 0)), .b (.lit (.bool false)), .b (.lit (.int .i64 0))]⟩)], 50⟩ := loop_up (by simp) (copst c L f z) L.length (fun i hi => copy_round L f z i hi hl) (by
  obtain ⟨m, hm⟩ : ∃ m, L.length = m + 1 := ⟨L.length - 1, by omega⟩
  have e : fst' L id (m + 1) = L := by rw [← hm]; exact (fst'_end L id).trans (List.map_id L)
  rw [hm]
  show Rnd Tryz.prog I _ _ ⟨[(1, .cv (.one (.ptr 3 0))), (2, .cv (.one (.ptr 4 0))), (3, .cv (.one (.ptr 10 0))), (4, .cv (.one (.b (.lit (.int .i64 ((m + 1 : Nat) : Int))))))], [(40, some ⟨57, some (9, m + 1), flatR ((fst' L id (m + 1)).map (rowT true))⟩), (10, some ⟨25, none, [.sl 40, .b (.lit (.bool f)), .b (.lit (.int .i64 z))]⟩), (3, some ⟨25, none, [.b (.it (slI 9 ((L).map (rowT c)))), .b (.lit (.bool f)), .b (.lit (.int .i64 z))]⟩), (4, some ⟨25, none, [.b (.lit (.slice none 0 0)), .b (.lit (.bool false)), .b (.lit (.int .i64 0))]⟩)], 50⟩ _ _
  rw [e]
  exact Rnd.nam [] (show Rnd _ _ _ _ _ _ ⟨[(2, .cv (.one (.ptr 4 0))), (3, .cv (.one (.ptr 10 0)))], [(40, some ⟨57, some (9, m + 1), flatR ((L).map (rowT true))⟩), (10, some ⟨25, none, [.sl 40, .b (.lit (.bool f)), .b (.lit (.int .i64 z))]⟩), (4, some ⟨25, none, [.b (.lit (.slice none 0 0)), .b (.lit (.bool false)), .b (.lit (.int .i64 0))]⟩)], 55⟩ from rnd_run 1000 [pk (sl_ln 23 57 3 9 ((L).map (rowT c)) ((L).length : Int)), pk (bF_lss 3 ((m + 1 : Nat) : Int) ((L).length : Int))] (by kernel_rfl)) (t := ⟨[(2, .cv (.one (.ptr 4 0))), (3, .cv (.one (.ptr 10 0)))], [(40, some ⟨57, some (9, m + 1), flatR ((L).map (rowT true))⟩), (10, some ⟨25, none, [.sl 40, .b (.lit (.bool f)), .b (.lit (.int .i64 z))]⟩), (4, some ⟨25, none, [.b (.lit (.slice none 0 0)), .b (.lit (.bool false)), .b (.lit (.int .i64 0))]⟩)], 50⟩) ⟨rfl, TVle.refl, rfl, TVle.refl, trivial⟩ ⟨rfl, rfl, rfl, ILe.refl, rfl, rfl, rfl, ILe.refl, rfl, rfl, rfl, ILe.refl, trivial⟩)
 generalize L.length = n at *
 exact spm_run (nt := 34) 1000 [pl (lo), pm ((show Leads I _ ⟨[(2, .cv (.one (.ptr 4 0))), (3, .cv (.one (.ptr 10 0)))], [(40, some ⟨57, some (9, n), flatR ((L).map (rowT true))⟩), (10, some ⟨25, none, [.sl 40, .b (.lit (.bool f)), .b (.lit (.int .i64 z))]⟩), (4, some ⟨25, none, [.b (.lit (.slice none 0 0)), .b (.lit (.bool false)), .b (.lit (.int .i64 0))]⟩)], 50⟩ ⟨[(2, .cv (.one (.ptr 4 0))), (3, .cv (.one (.ptr 10 0)))], [(2, some ⟨57, some (9, n), flatR ((L).map (rowT true))⟩), (10, some ⟨25, none, [.sl 2, .b (.lit (.bool f)), .b (.lit (.int .i64 z))]⟩), (4, some ⟨25, none, [.b (.lit (.slice none 0 0)), .b (.lit (.bool false)), .b (.lit (.int .i64 0))]⟩)], 50⟩ from nam_leads [(2, 40)] ⟨rfl, TVle.refl, rfl, TVle.refl, trivial⟩ ⟨rfl, rfl, rfl, ILe.refl, rfl, rfl, rfl, ILe.refl, rfl, rfl, rfl, ILe.refl, trivial⟩))] (by kernel_rfl)
theorem copy_sp (L : List Nd) (f : Bool) (z : Int) (h0 : 0 < L.length) (hl : L.length ≤ 2002) : Sp Tryz.prog I 40 [trT c L f z] (.cv (trT true L f z)) := (copy_spm L f z h0 hl).freeze (by rw [List.length_map]) rowT_w rfl
theorem rnew_sp (q : Rat) : Sp Tryz.prog I 19 [fc c 12 q] (.cv (trT true (rootL q) false 0)) := by
 have h : SpM Tryz.prog I 19 [] [fc c 12 q] [(2, some (nbx true (rootL q) 1))] (.cv (.ag [.sl 2, .b (.lit (.bool false)), .b (.lit (.int .i64 0))])) := spm_run (nt := 8) 1000 [po (canon25F (I := I) (c := c) (k := 12) (p := q) (by omega)), pm ((show Leads I _ ⟨[(2, .cv (.one (.ptr 4 0)))], [(8, some ⟨57, some (9, 1), [.b (.lit (.int .i64 (-1))), .b (.lit (.int .i64 0)), .b (.lit (.int .i64 0)), .b (.lit (.bool false)), .b (.it (fF true 12 q)), .b (.lit (.int .i64 0))]⟩), (4, some ⟨25, none, [.sl 8, .b (.lit (.bool false)), .b (.lit (.int .i64 0))]⟩)], 11⟩ ⟨[(2, .cv (.one (.ptr 4 0)))], [(2, some ⟨57, some (9, 1), [.b (.lit (.int .i64 (-1))), .b (.lit (.int .i64 0)), .b (.lit (.int .i64 0)), .b (.lit (.bool false)), .b (.it (fF true 12 q)), .b (.lit (.int .i64 0))]⟩), (4, some ⟨25, none, [.sl 2, .b (.lit (.bool false)), .b (.lit (.int .i64 0))]⟩)], 11⟩ from nam_leads [(2, 8)] ⟨rfl, TVle.refl, trivial⟩ ⟨rfl, rfl, rfl, ILe.refl, rfl, rfl, rfl, ILe.refl, trivial⟩))] (by kernel_rfl)
 exact h.freeze rfl rowT_w rfl
end
end Go.Proofs.YtflajoflpkboiaaGreat
