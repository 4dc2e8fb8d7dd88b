/- Texts of one proof, put together by a program: each lemma is proved for all values of its variables, under the premises that it states. -/
import Derived.Test.YtdgbealknnmkoaaGreatDoorP44e7bad4
import Derived.Test.YtdgbealknnmkoaaGreatDoorPcaa0fb5d
set_option linter.unusedVariables false
set_option linter.unusedSimpArgs false
namespace Go.Proofs.YtdgbealknnmkoaaGreatDoor
open Go Go.RowKit
section
theorem AaK {f : FuncId} {args : List CT} (h : Sp Tryz.prog At f args (lb true)) {w : World} (hT : Tab w) (hM : ∃ m : Int, w.cell? ⟨0, 0, none⟩ = some (.int .i64 m)) {vs : List Value} (hv : all2 (CT.sem (fun b => b < w.heap.size) w G0) args vs) : Calls Tryz.prog f vs.toArray w (GL w (.bool true)) := by
 have hlt : 0 < w.heap.size := by
  obtain ⟨m, h2⟩ := hM;rcases Nat.lt_or_ge 0 w.heap.size with h' | h'
  ·exact h'
  ·unfold World.cell? at h2
   rw [Array.getElem?_eq_none h'] at h2;simp at h2
 exact XQ h ⟨⟨hT, hT.lt⟩, hM, hlt⟩ hv
end
theorem XT {q : Rat} {n : Nat} {cs : List Ch} (h : Jok q n cs) (hn : n ≤ 10) : (jby cs).length ≤ 10000 := by
 have h1 := Oj cs h.enc;have h2 := h.len;omega
theorem Q0 (l m : List Int) (hl : l.length ≤ 35184372087808) (hm : m.length ≤ 35184372087808) : Sp Tryz.prog At 5 [.t (slI 1 (l.map Ag)), .t (slI 1 (m.map Ag))] (lb true) := by
 have hj := XS (I := At) l hl;have hbl := XT (ZR l) (Nat.le_refl _);have hch := WI (I := At) m 0 (by omega) hm
 have ha := WV (I := At) m 1 (by omega) hm
 have hb := Ok (jnS l);generalize trA (B0 (atS l 0)) (jnS l) = S at *;obtain ⟨L, f, z⟩ := S
 dsimp only at hj
 generalize jby (jnS l) = b at *;generalize jnS l = cs at *;generalize Kc (atS m 0) = x at *;generalize atS m 1 = a at *;have key : ∀ y : Ch, ∃ e r, Sp Tryz.prog At 22 [.t (bI b), chK false 12 y] (.tu [.t (bI e), ci r]) ∧ Sp Tryz.prog At 23 [.t (bI b), chK false 12 y] (.tu [.t (bI e), ci r]) ∧ B8 e := fun y =>
  ⟨_, _, (Q1 (c := false) (k := 12) b (by omega) y (by omega)).inv QD, MQ (c := false) (k := 12) b (by omega) y (by omega), XV hb y⟩
 by_cases h : a.tmod 8 = 0
 ·obtain ⟨e, r, hA, hR, he⟩ := key ⟨x.kind, -1, x.q, x.fst, x.nxt, x.cost⟩
  have hq := Sy (I := At) e he;exact sr 49 [po (hj), po (hch), po (ha), pk (EO 3 a 8 (by omega)), pk (Am 3 ((a).tmod 8) 0), po (hA), po (hR), pk (Am 32 r r), po (hq), po (So)]
 ·obtain ⟨e, r, hA, hR, he⟩ := key x
  have hq := Sy (I := At) e he;exact sr 49 [po (hj), po (hch), po (ha), pk (EO 3 a 8 (by omega)), pk (Ae 3 ((a).tmod 8) 0), po (hA), po (hR), pk (Am 32 r r), po (hq), po (So)]
theorem Hi (w : World) {u v : Value} {l m : List Int} (h1 : Xc w u l) (h2 : Xc w v m) (hT : Tab w) (hM : ∃ m : Int, w.cell? ⟨0, 0, none⟩ = some (.int .i64 m)) : Calls Tryz.prog 5 #[u, v] w (GL w (.bool true)) :=
 AaK (Q0 l m h1.1 h2.1) hT hM ⟨_, _, rfl, h1.2, _, _, rfl, h2.2, rfl⟩
end Go.Proofs.YtdgbealknnmkoaaGreatDoor
