/- Texts of one proof, put together by a program: each lemma is proved for all values of its variables, under the premises that it states. -/
import Derived.Test.YtdgbealknnmkoaaGreatDoorP68b5db54
import Derived.Test.YtdgbealknnmkoaaGreatDoorP9d649603
set_option linter.unusedVariables false
set_option linter.unusedSimpArgs false
namespace Go.Proofs.YtdgbealknnmkoaaGreatDoor
open Go Go.RowKit
def ABy (w : World) (v : Value) (xs : List Nat) : Prop := B8 xs ∧ (CT.one (.b (.it (bI xs)))).sem (fun b => b < w.heap.size) w G0 v
theorem Xu {w : World} {B n c : Nat} {A : Option Addr} {xs : List Nat} (h : Rd .u8 w B A n xs) (hB : B ≤ w.heap.size) (hnc : n ≤ c) (hc : c ≤ maxLen) : (bI xs).T (fun b => b < w.heap.size) w [.slice A n c] := by
 have hl := h.len;refine ⟨A, c, by rw [List.length_map, hl], by rw [List.length_map, hl]; exact hnc, hc, fun hne => ?_⟩
 have hn : 0 < n := by
  rcases Nat.eq_zero_or_pos n with h0 | h0
  ·rw [h0] at hl; rw [List.eq_nil_of_length_eq_zero hl] at hne; exact absurd rfl hne
  ·exact h0
 obtain ⟨b, off, rfl, hb, hcell⟩ := h.2 hn;refine ⟨b, off, rfl, fun i r hi => ?_⟩
 have hil : i < xs.length := by have := (List.getElem?_eq_some_iff.1 hi).1; simpa using this
 rw [Gu hil] at hi;injection hi with hi;subst hi;have hx := hcell i (xs.getD i 0) (by rw [List.getD_eq_getElem?_getD, List.getElem?_eq_getElem hil]; rfl)
 cases hq : w.heap[b]? with
 | none => simp [World.cell?, hq] at hx
 | some o =>
  cases o with
  | cells cs T fr =>
   refine ⟨cs, T, fr, [.int .u8 ((xs.getD i 0 : Nat) : Int)], by show b < w.heap.size; omega, hq, ?_, [_], [], rfl, rfl, rfl⟩
   simp only [World.cell?, hq] at hx;apply List.ext_getElem?;intro j;cases j with
   | zero => simp only [List.getElem?_take, List.getElem?_drop]; simpa using hx
   | succ j => simp; omega
  | _ => simp [World.cell?, hq] at hx
section
open Go.ChangeShapes Go.WideShapes Go.ChangeAt Go.Joins Go.Deep
theorem Tryz.cellsU8 : Tryz.prog.cellsOf 5 = 1 := by kernel_rfl
set_option maxRecDepth 100000 in
theorem TZ {H : Type} {enc : TypeId × Value → H} {W : World} {r : Reach} {b0 : Nat} {v : Value} {d : DataW H} {p : List MemPlace} (hv : Value.okWide Tryz.prog W r b0 31 v) (h : DataW.Trod enc Tryz.prog W 0 (fun _ => true) true 31 v d p) : ∃ xs, ABy W v xs := by
 have h' := h;obtain ⟨fuel, hf⟩ := h';obtain ⟨A, n, c, e⟩ := slice_form Tryz.underlying31 hf;have : v = .slice A n c := by
  cases v with
  | agg x => cases hv
  | slice a n' c' => exact (List.cons.inj e).1
  | _ => cases e
 subst this;obtain ⟨xs, hr⟩ := Xg Tryz.underlying31 Tryz.underlying5 Tryz.cellsU8 h;exact ⟨xs, hr.byte, Xu hr.1 (Nat.le_refl _) hr.2.1 hr.2.2.1⟩
end
section
theorem X1 {f : FuncId} {args : List CT} (h : Sp Tryz.prog Ai f args (lb true)) {w : World} (hT : Tab w) (hM : ∃ m : Int, w.cell? ⟨0, 0, none⟩ = some (.int .i64 m)) {vs : List Value} (hv : all2 (CT.sem (fun b => b < w.heap.size) w G0) args vs) : Calls Tryz.prog f vs.toArray w (GE w (.bool true)) := by
 have hlt : 0 < w.heap.size := by
  obtain ⟨m, h2⟩ := hM;rcases Nat.lt_or_ge 0 w.heap.size with h' | h'
  ·exact h'
  ·unfold World.cell? at h2
   rw [Array.getElem?_eq_none h'] at h2;simp at h2
 exact UO h ⟨⟨hT, hT.lt⟩, hM, hlt⟩ hv
end
theorem L3 {D : List Nat} : okR 1 (D.map Ad) := by
 intro r hr;obtain ⟨x, _, rfl⟩ := List.mem_map.1 hr;exact ⟨rfl, fun y hy => by simp at hy; subst hy; exact Nat.one_pos⟩
theorem Ml {D : List Nat} {i : Nat} (h : i < D.length) : Gg (Am (D.map Ad)) (i * 1) 1 = some [.b (.lit (.int .u8 ((byt D i : Nat) : Int)))] := Us (sz := 1) (r := Ad (byt D i)) (Qt h) L3 (fo := 0) (n := 1) rfl
theorem Me {D : List Nat} {i : Nat} (h : i < D.length) (x : Nat) : Ff (Am (D.map Ad)) (i * 1) [.b (.lit (.int .u8 ((x : Nat) : Int)))] = some (Am ((D.set i x).map Ad)) := by
 have := Uk (sz := 1) (r := Ad (byt D i)) (r' := Ad x) (new := [.b (.lit (.int .u8 ((x : Nat) : Int)))]) (Qt (D := D) h) L3 (fo := 0) rfl;rw [← List.map_set] at this;exact this
theorem B8.set {xs : List Nat} (h : B8 xs) {i v : Nat} (hv : v < 256) : B8 (xs.set i v) := by
 intro x hx;rcases List.mem_or_eq_of_mem_set hx with hx | hx
 ·exact h x hx
 ·rw [hx]; exact hv
section
variable {P : Program}
theorem XF (t : TypeId) (x y : Nat) (hx : x < 256) (hy : y < 256) : AO P (.bin .xor t) [l8 (x : Int), l8 (y : Int)] (l8 ((x ^^^ y : Nat) : Int)) := Bn (vs := [.int .u8 (x : Int), .int .u8 (y : Int)]) fun w => by
 have := u8_xor_nat x y hx hy;simp [OpK.run, eqGuard, binOp, Op.intBits]
 simpa [bits] using this
theorem Wm (t : TypeId) (m : Int) (k : Nat) (hm : 0 ≤ m) (hk : 0 < k) : ∃ i : Nat, i < k ∧ AO P (.bin .rem t) [li m, li (k : Int)] (li (i : Int)) := by
 obtain ⟨n, rfl⟩ := Int.eq_ofNat_of_zero_le hm;refine ⟨n % k, Nat.mod_lt _ hk, ?_⟩;have := J7 (P := P) t (n : Int) (k : Int) (by omega)
 rw [Int.tmod_eq_emod_of_nonneg (by omega)] at this
 exact this
end
theorem UY (n : Int) (k y : Nat) (hy : y < 256) : ∃ m v : Nat, v < 256 ∧ 1 + Bh (BI n k) 127 = (m : Int) ∧ m < 256 ∧ AO Tryz.prog (.conv 3 5) [li (1 + Bh (BI n k) 127)] (l8 (m : Int)) ∧ AO Tryz.prog (.bin .xor 5) [l8 (y : Int), l8 (m : Int)] (l8 (v : Int)) := by
 have h := Dy (BI n k) 127 (by omega) (by omega)
 obtain ⟨m, hm⟩ := Int.eq_ofNat_of_zero_le (show 0 ≤ 1 + Bh (BI n k) 127 by omega)
 refine ⟨m, y ^^^ m, Nat.xor_lt_two_pow (n := 8) hy (by omega), hm, by omega, ?_, XF _ y m hy (by omega)⟩
 rw [hm];exact X6 m (by omega)
theorem M8 {y : Ch} : AT y ≠ ([], 0) := by
 intro h;obtain ⟨n, _, _, h1⟩ := FR h;have p1 := E0 1;have p2 := E0 2;have p3 := E0 3;rcases h1 with ⟨_, _, e⟩ | ⟨a, c, _, _, _, e⟩ | ⟨_, _, e⟩ <;> (have := congrArg List.length e; simp only [List.length_nil, List.length_append] at this; omega)
theorem UQ {x : Ch} (h : (AT x).2 = 0) : Lq x.q 84 := by
 obtain ⟨n, _, _, h1⟩ := FR (Je h);have h0 : Lq 0 84 := ⟨F6 84, DV (by omega), by omega⟩
 rcases h1 with ⟨_, hl, _⟩ | ⟨a, c, _, _, e, _⟩ | ⟨e, _, _⟩
 ·exact Qj hl
 ·rw [e]; exact h0
 ·rw [e]; exact h0
theorem Oh (b : List Nat) (hb : B8 b) (hl : b.length ≤ 2000000) : (∃ y : Ch, Sp Tryz.prog Ai 16 [.t (bI b)] (.tu [chK true 84 y, ci 0]) ∧ Sp Tryz.prog Ai 18 [.t (bI b)] (.tu [chK false 84 y, ci 0])) ∨ (Sp Tryz.prog Ai 16 [.t (bI b)] (.tu [chZ, ci 2]) ∧ Sp Tryz.prog Ai 18 [.t (bI b)] (.tu [chZ, ci 2])) := by
 by_cases h : ∃ y, AT y = (b, 0)
 ·obtain ⟨y, hy⟩ := h
  have hq := UQ (x := y) (by rw [hy])
  exact .inl ⟨y, Td hy hq, O9 hy hq⟩
 ·exact .inr ⟨KC hb fun y hy => h ⟨y, hy⟩, L4 hb hl fun y hy => h ⟨y, hy⟩⟩
theorem TR (y : Ch) : Sp Tryz.prog Ai 17 [.t (csI true 84 [y]), .t (csI false 84 [y])] (lb true) := RA (I := Ai) (c := false) (k := 84) (j := 84) [y] (by simp) (by omega) (by omega)
theorem Od (b : List Nat) (hb : B8 b) (l : List Int) (hl : l.length ≤ 35184372087808) (n : Int) : Sp Tryz.prog Ai 4 [.t (bI b), .t (slI 1 (l.map Fu)), ci n] (lb true) := by
 by_cases hlen : b.length > 300
 ·exact sr 93 [pk (BH 31 5 3 1 ((b).map (Ad)) ((b).length : Int)), pk (Dd 3 ((b).length : Int) 300), po (ET)]
 have hch := WZ (I := Ai) l 0 (by omega) hl
 generalize Xa (atS l 0) = x at *;have d12 := Oh b hb (by omega)
 rcases (JK (I := Ai) (c := false) (k := 12) x (by omega)).2 with ⟨h0, hR⟩ | ⟨h0, _, hR⟩
 ·have hc8 := EU x
  have hcl := Ey x;have hc0 : 0 < (AT x).1.length := by
   rcases Nat.eq_zero_or_pos (AT x).1.length with h | h
   ·have e := Je h0
    rw [List.eq_nil_of_length_eq_zero h] at e;exact absurd e M8
   ·exact h
  generalize (AT x).1 = c at *;have hl63 := Dy n 63 (by omega) (by omega)
  obtain ⟨ix, hix, hrem⟩ := Wm (P := Tryz.prog) 3 (Bh n 63) c.length (by omega) hc0
  obtain ⟨m, v, hv, hm, hm2, hconv, hxor⟩ := UY n 6 (byt c ix) (DX c ix 256 hc8 (by omega))
  have hxor : AO Tryz.prog (.bin .xor 5) [l8 (((byt c ix) : Nat) : Int), l8 (m : Int)] (l8 ((v : Nat) : Int)) := hxor;have d34 := Oh (c.set ix v) (hc8.set hv) (by rw [List.length_set]; omega)
  rcases d12 with ⟨y, d1, d2⟩ | ⟨d1, d2⟩ <;> rcases d34 with ⟨t, d3, d4⟩ | ⟨d3, d4⟩
  ·exact sr 93 [pk (BH 31 5 3 1 ((b).map (Ad)) ((b).length : Int)), pk (Av 3 ((b).length : Int) 300), po (d1), po (d2), pa, pa, pk (Ej true 84 y), pk (Ej false 84 y), po (TR y), pa, po (hch), pon (hR), pk (Dd 3 ((c).length : Nat) 0), pk (CO 3 n 63), pk (hrem), ⟨.ix (ix : Int) ix ((c).length), ⟨rfl, hix⟩⟩, ⟨.part (Am ((c).map Ad)) (ix * 1) 1 [.b (.lit (.int .u8 (((byt c ix) : Nat) : Int)))], (Ml (D := c) hix)⟩, pk (EE 3 n 6), pk (CO 3 (BI n 6) 127), pk (Bi 3 1 (Bh (BI n 6) 127) ⟨by omega, by omega⟩), pk (hconv), pk (hxor), ⟨.ix (ix : Int) ix ((c).length), ⟨rfl, hix⟩⟩, ⟨.upd (Am ((c).map Ad)) (ix * 1) [.b (.lit (.int .u8 ((v : Nat) : Int)))] (Am (((c).set (ix) (v)).map Ad)), (Me (D := c) hix (v))⟩, pm (AY (I := Ai) (t := 11) (k := 37) (E := [(7, .p 9 0), (9, .p 17 0)]) (B := [(9, some ⟨28, none, [.i y.kind, .i y.node, .b (.it (fF true 84 y.q)), .i y.fst, .i y.nxt, .i y.cost]⟩), (17, some ⟨28, none, [.i y.kind, .i y.node, .b (.it (fF false 84 y.q)), .i y.fst, .i y.nxt, .i y.cost]⟩)]) (nx := 62) (T := 5) (sz := 1) (n := ((c).length)) ((c.set (ix) (v)).map Ad) rfl (by simp) AU rfl), po (d3), po (d4), pa, pa, pk (Ej true 84 t), pk (Ej false 84 t), po (TR t), po (ET)]
  ·exact sr 93 [pk (BH 31 5 3 1 ((b).map (Ad)) ((b).length : Int)), pk (Av 3 ((b).length : Int) 300), po (d1), po (d2), pa, pa, pk (Ej true 84 y), pk (Ej false 84 y), po (TR y), pa, po (hch), pon (hR), pk (Dd 3 ((c).length : Nat) 0), pk (CO 3 n 63), pk (hrem), ⟨.ix (ix : Int) ix ((c).length), ⟨rfl, hix⟩⟩, ⟨.part (Am ((c).map Ad)) (ix * 1) 1 [.b (.lit (.int .u8 (((byt c ix) : Nat) : Int)))], (Ml (D := c) hix)⟩, pk (EE 3 n 6), pk (CO 3 (BI n 6) 127), pk (Bi 3 1 (Bh (BI n 6) 127) ⟨by omega, by omega⟩), pk (hconv), pk (hxor), ⟨.ix (ix : Int) ix ((c).length), ⟨rfl, hix⟩⟩, ⟨.upd (Am ((c).map Ad)) (ix * 1) [.b (.lit (.int .u8 ((v : Nat) : Int)))] (Am (((c).set (ix) (v)).map Ad)), (Me (D := c) hix (v))⟩, pm (AY (I := Ai) (t := 11) (k := 37) (E := [(7, .p 9 0), (9, .p 17 0)]) (B := [(9, some ⟨28, none, [.i y.kind, .i y.node, .b (.it (fF true 84 y.q)), .i y.fst, .i y.nxt, .i y.cost]⟩), (17, some ⟨28, none, [.i y.kind, .i y.node, .b (.it (fF false 84 y.q)), .i y.fst, .i y.nxt, .i y.cost]⟩)]) (nx := 62) (T := 5) (sz := 1) (n := ((c).length)) ((c.set (ix) (v)).map Ad) rfl (by simp) AU rfl), po (d3), po (d4), pa, pa, po (ET)]
  ·exact sr 93 [pk (BH 31 5 3 1 ((b).map (Ad)) ((b).length : Int)), pk (Av 3 ((b).length : Int) 300), po (d1), po (d2), pa, pa, po (hch), pon (hR), pk (Dd 3 ((c).length : Nat) 0), pk (CO 3 n 63), pk (hrem), ⟨.ix (ix : Int) ix ((c).length), ⟨rfl, hix⟩⟩, ⟨.part (Am ((c).map Ad)) (ix * 1) 1 [.b (.lit (.int .u8 (((byt c ix) : Nat) : Int)))], (Ml (D := c) hix)⟩, pk (EE 3 n 6), pk (CO 3 (BI n 6) 127), pk (Bi 3 1 (Bh (BI n 6) 127) ⟨by omega, by omega⟩), pk (hconv), pk (hxor), ⟨.ix (ix : Int) ix ((c).length), ⟨rfl, hix⟩⟩, ⟨.upd (Am ((c).map Ad)) (ix * 1) [.b (.lit (.int .u8 ((v : Nat) : Int)))] (Am (((c).set (ix) (v)).map Ad)), (Me (D := c) hix (v))⟩, pm (AY (I := Ai) (t := 11) (k := 37) (E := [(7, .p 9 0), (9, .p 17 0)]) (B := [(9, some ⟨28, none, [.i 0, .i 0, .o false, .z, .o false, .z, .i 0, .i 0, .i 0]⟩), (17, some ⟨28, none, [.i 0, .i 0, .o false, .z, .o false, .z, .i 0, .i 0, .i 0]⟩)]) (nx := 62) (T := 5) (sz := 1) (n := ((c).length)) ((c.set (ix) (v)).map Ad) rfl (by simp) AU rfl), po (d3), po (d4), pa, pa, pk (Ej true 84 t), pk (Ej false 84 t), po (TR t), po (ET)]
  ·exact sr 93 [pk (BH 31 5 3 1 ((b).map (Ad)) ((b).length : Int)), pk (Av 3 ((b).length : Int) 300), po (d1), po (d2), pa, pa, po (hch), pon (hR), pk (Dd 3 ((c).length : Nat) 0), pk (CO 3 n 63), pk (hrem), ⟨.ix (ix : Int) ix ((c).length), ⟨rfl, hix⟩⟩, ⟨.part (Am ((c).map Ad)) (ix * 1) 1 [.b (.lit (.int .u8 (((byt c ix) : Nat) : Int)))], (Ml (D := c) hix)⟩, pk (EE 3 n 6), pk (CO 3 (BI n 6) 127), pk (Bi 3 1 (Bh (BI n 6) 127) ⟨by omega, by omega⟩), pk (hconv), pk (hxor), ⟨.ix (ix : Int) ix ((c).length), ⟨rfl, hix⟩⟩, ⟨.upd (Am ((c).map Ad)) (ix * 1) [.b (.lit (.int .u8 ((v : Nat) : Int)))] (Am (((c).set (ix) (v)).map Ad)), (Me (D := c) hix (v))⟩, pm (AY (I := Ai) (t := 11) (k := 37) (E := [(7, .p 9 0), (9, .p 17 0)]) (B := [(9, some ⟨28, none, [.i 0, .i 0, .o false, .z, .o false, .z, .i 0, .i 0, .i 0]⟩), (17, some ⟨28, none, [.i 0, .i 0, .o false, .z, .o false, .z, .i 0, .i 0, .i 0]⟩)]) (nx := 62) (T := 5) (sz := 1) (n := ((c).length)) ((c.set (ix) (v)).map Ad) rfl (by simp) AU rfl), po (d3), po (d4), pa, pa, po (ET)]
 ·have d3 := (KC (b := []) (fun z hz => by cases hz) (fun y => M8)).wk (args' := [.one (.z)]) ⟨XLe.one K5, trivial⟩
  have d4 := (L4 (I := Ai) (b := []) (fun z hz => by cases hz) (by simp) (fun y => M8)).wk (args' := [.one (.z)]) ⟨XLe.one K5, trivial⟩
  generalize (AT x).2 = r at *;rcases d12 with ⟨y, d1, d2⟩ | ⟨d1, d2⟩
  ·exact sr 93 [pk (BH 31 5 3 1 ((b).map (Ad)) ((b).length : Int)), pk (Av 3 ((b).length : Int) 300), po (d1), po (d2), pa, pa, pk (Ej true 84 y), pk (Ej false 84 y), po (TR y), pa, po (hch), po (hR), pa, pa, po (d3), po (d4), pa, pa, po (ET)]
  ·exact sr 93 [pk (BH 31 5 3 1 ((b).map (Ad)) ((b).length : Int)), pk (Av 3 ((b).length : Int) 300), po (d1), po (d2), pa, pa, po (hch), po (hR), pa, pa, po (d3), po (d4), pa, pa, po (ET)]
theorem G1 (w : World) {u v : Value} {b : List Nat} {l : List Int} (h1 : ABy w u b) (h2 : VS w v l) (n : Int) (hn : (Lit.int .i64 n).wf = true) (hT : Tab w) (hM : ∃ m : Int, w.cell? ⟨0, 0, none⟩ = some (.int .i64 m)) : Calls Tryz.prog 4 #[u, v, .int .i64 n] w (GE w (.bool true)) :=
 X1 (Od b h1.1 l h2.1 n) hT hM ⟨_, _, rfl, h1.2, _, _, rfl, h2.2, _, _, rfl, rfl, rfl⟩
end Go.Proofs.YtdgbealknnmkoaaGreatDoor
