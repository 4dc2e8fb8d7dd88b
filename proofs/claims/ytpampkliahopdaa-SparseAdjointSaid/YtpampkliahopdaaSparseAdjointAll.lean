/- SparseAdjoint: for every input the law's Go function returns true, and every argument reads afterwards as it read before, where the listed package variables hold what the program's text lays; the card ties them to that text. (Merged by a program out of several texts.) -/
import Derived.Test.YtpampkliahopdaaOpenI
import Derived.Test.YtpampkliahopdaaPart57e5e060b1
import Derived.Test.YtpampkliahopdaaRows
import Derived.Test.YtpampkliahopdaaOpen
/- Opening an api.Frac, and a slice of them, that came in. -/
namespace Go.Proofs.Ytpampkliahopdaa
open Go.ChangeShapes Go.WideShapes Go.ChangeAt Go.RowKit Go.Joins
set_option linter.unusedVariables false

theorem Try.cellsFrac : Try.prog.cellsOf 39 = 4 := by kernel_rfl
set_option maxRecDepth 100000 in
theorem trodInt {H : Type} {enc : TypeId × Value → H} {W : World} {base fuel : Nat} {spare : Nat → Bool} {held : Bool} {cs : List Value} {y : DataW H × List MemPlace} (h : DataW.trod enc Try.prog W base spare held fuel 37 cs = some y)
    (hz : ∀ x ∈ DataW.weights Try.prog 37 y.1, x ≤ reachBytes) : ∃ s A n c z, cs = [.bool s, .slice A n c] ∧ AInt W s A n c z ∧ n ≤ 35184372087808 := by
  obtain ⟨y0, y1, m, rfl, hl, h0, h1⟩ := trod_struct2 Try.underlying37 h
  rw [Try.cellsInt] at hl
  match cs, hl with
  | [c0, c1], _ =>
    have h0 : DataW.trod enc Try.prog W base spare held m 4 [c0] = some y0 := h0
    have h1 : DataW.trod enc Try.prog W base spare held m 35 [c1] = some y1 := h1
    obtain ⟨s, e0, rfl⟩ := DataW.trod_bool Try.underlying4 h0
    obtain ⟨A, n, c, e1⟩ := slice_form Try.underlying35 h1
    simp only [List.cons.injEq, and_true] at e0 e1
    subst e0 e1
    obtain ⟨xs, hr, hnc, hc, hw⟩ := argRow (A := A) (len := n) (cap := c) Try.underlying35 Try.underlying77 (by kernel_rfl) ⟨m, show DataW.trod enc Try.prog W base spare held m 35 [.slice A n c] = some (y1.1, y1.2) from h1⟩
    have hn := slice_reach h1 (fun x hx => hz x (by
      simp only [DataW.weights, Try.underlying37]
      exact DataW.weights_mem_each (j := 1) (t := 35) (d := y1.1) rfl rfl x hx))
    refine ⟨s, A, n, c, sgn s (val xs), rfl, ⟨xs, hr, ?_, hnc, by unfold maxLen at hc; exact hc, rfl⟩, hn⟩
    exact ArgRow.word ⟨hr, hnc, hc, hw⟩
set_option maxRecDepth 100000 in
theorem trodFrac {H : Type} {enc : TypeId × Value → H} {W : World} {base fuel : Nat} {spare : Nat → Bool} {held : Bool} {cs : List Value} {y : DataW H × List MemPlace} (h : DataW.trod enc Try.prog W base spare held fuel 39 cs = some y)
    (hz : ∀ x ∈ DataW.weights Try.prog 39 y.1, x ≤ reachBytes) : ∃ p, W2 p ∧ Mem p ∧ semL (fun b => b < W.heap.size) W G0 (frl p) cs := by
  obtain ⟨y0, y1, m, rfl, hl, h0, h1⟩ := trod_struct2 Try.underlying39 h
  rw [Try.cellsFrac] at hl
  match cs, hl with
  | [c0, c1, c2, c3], _ =>
    have h0 : DataW.trod enc Try.prog W base spare held m 37 [c0, c1] = some y0 := h0
    have h1 : DataW.trod enc Try.prog W base spare held m 37 [c2, c3] = some y1 := h1
    obtain ⟨s, A, n, c, z, e1, a1, b1⟩ := trodInt h0 (fun x hx => hz x (by
      simp only [DataW.weights, Try.underlying39]
      exact DataW.weights_mem_each (j := 0) (t := 37) (d := y0.1) rfl rfl x hx))
    obtain ⟨s', A', n', c', z', e2, a2, b2⟩ := trodInt h1 (fun x hx => hz x (by
      simp only [DataW.weights, Try.underlying39]
      exact DataW.weights_mem_each (j := 1) (t := 37) (d := y1.1) rfl rfl x hx))
    obtain ⟨ds, k1, k2, _, k4⟩ := open_int' (N := fun b => b < W.heap.size) a1
    obtain ⟨es, g1, g2, _, g4⟩ := open_int' (N := fun b => b < W.heap.size) a2
    refine ⟨((s, ds), (s', es)), ⟨k1, g1⟩, ⟨by show ds.length ≤ _; omega, by show es.length ≤ _; omega⟩, ?_⟩
    rw [← e1] at k4
    rw [← e2] at g4
    exact semL_append k4 g4
set_option maxRecDepth 100000 in
theorem argFrac {H : Type} {enc : TypeId × Value → H} {W : World} {r : Reach} {b0 : Nat} {v : Value} {d : DataW H} {p : List MemPlace} (hv : Value.okWide Try.prog W r b0 39 v) (h : DataW.Trod enc Try.prog W 0 (fun _ => true) true 39 v d p)
    (hz : ∀ x ∈ DataW.weights Try.prog 39 d, x ≤ reachBytes) : ∃ q, AFrac W v q := by
  obtain ⟨cs, rfl, hsz⟩ := okWide_struct Try.underlying39 hv
  obtain ⟨fuel, hf⟩ := h
  obtain ⟨q, h1, h2, h3⟩ := trodFrac hf hz
  exact ⟨q, h1, h2, cs.toList, by simp, h3⟩
/-- a slice of fractions that came in -/
def AFracs (w : World) (v : Value) (xs : List Fg) : Prop := (∀ p ∈ xs, W2 p ∧ Mem p) ∧ xs.length ≤ 35184372087808 ∧ (CT.one (.b (.it (slI 4 (rowsF xs))))).sem (fun b => b < w.heap.size) w G0 v
set_option maxRecDepth 100000 in
theorem argFracs {H : Type} {enc : TypeId × Value → H} {W : World} {r : Reach} {b0 : Nat} {v : Value} {d : DataW H} {p : List MemPlace} (hv : Value.okWide Try.prog W r b0 30 v) (h : DataW.Trod enc Try.prog W 0 (fun _ => true) true 30 v d p)
    (hz : ∀ x ∈ DataW.weights Try.prog 30 d, x ≤ reachBytes) : ∃ q, AFracs W v q := by
  obtain ⟨fuel, hf⟩ := h
  obtain ⟨xs, h1, h2, h3⟩ := trodRows (Q := fun p : Fg => W2 p ∧ Mem p) (row := rowF) (sz := 4) Try.underlying30 Try.cellsFrac (by omega) (of_decide_eq_true (by kernel_rfl)) hf hz (fun n vs d ps hd hw => by
    obtain ⟨p, k1, k2, k3⟩ := trodFrac hd hw
    exact ⟨p, ⟨k1, k2⟩, semL_semL0 (xs := rowF p) k3⟩)
  refine ⟨xs, h1, h2, ?_⟩
  obtain ⟨A, c, e, rest⟩ := h3
  have : v = .slice A (rowsF xs).length c := by
    cases v with
    | agg cs =>
      exfalso
      cases hv
    | slice a n c => exact (List.cons.inj e).1
    | _ => cases e
  subst this
  exact ⟨A, c, rfl, rest⟩
end Go.Proofs.Ytpampkliahopdaa

/- The kit of the laws of vectors: Light, small, awake, arguments opened. -/
namespace Go.Proofs.Ytpampkliahopdaa
open Go Go.RowKit
set_option linter.unusedVariables false
set_option linter.unusedSimpArgs false

abbrev Eg := Int × Fg
abbrev rowG (x : Eg) : List It0 := [.lit (.int .i64 x.1), .lit (.bool x.2.1.1), .it (DS x.2.1.2), .lit (.bool x.2.2.1), .it (DS x.2.2.2)]
abbrev vgI (v : List Eg) : Item := slI 5 (v.map rowG)
abbrev rowM (v : List Eg) : List It0 := [.it (vgI v)]
def gat (v : List Eg) (i : Nat) : Eg := v.getD i (0, ((false, []), (false, [])))
def lat (L : List (List Eg)) (i : Nat) : List Eg := L.getD i []
theorem gat_get {v : List Eg} {i : Nat} (h : i < v.length) : gat v i = v[i] := by unfold gat; rw [List.getD_eq_getElem?_getD, List.getElem?_eq_getElem h]; rfl
theorem lat_get {v : List (List Eg)} {i : Nat} (h : i < v.length) : lat v i = v[i] := by unfold lat; rw [List.getD_eq_getElem?_getD, List.getElem?_eq_getElem h]; rfl
theorem gat_row {v : List Eg} {i : Nat} {f : Eg → List It0} (h : i < v.length) : (v.map f)[i]? = some (f (gat v i)) := map_some (by rw [gat_get h, List.getElem?_eq_getElem h])
theorem lat_row {v : List (List Eg)} {i : Nat} {f : List Eg → List It0} (h : i < v.length) : (v.map f)[i]? = some (f (lat v i)) := map_some (by rw [lat_get h, List.getElem?_eq_getElem h])
theorem gat_mem {v : List Eg} {i : Nat} (h : i < v.length) : gat v i ∈ v := by rw [gat_get h]; exact List.getElem_mem h
theorem lat_mem {v : List (List Eg)} {i : Nat} (h : i < v.length) : lat v i ∈ v := by rw [lat_get h]; exact List.getElem_mem h
def badV (v : List Eg) : Nat := v.findIdx fun e => !okF e.2
def badL (L : List (List Eg)) : Nat := L.findIdx fun v => decide (badV v < v.length)
def ltot (L : List (List Eg)) : Nat → Int
  | 0 => 0
  | i + 1 => IntKind.i64.wrap (ltot L i + ((lat L i).length : Int))
def lightB (L : List (List Eg)) : Bool := decide (¬ badL L < L.length) && decide (ltot L L.length ≤ 60) && decide (L.length ≤ 20)
abbrev MemV (v : List Eg) : Prop := (∀ e ∈ v, W2 e.2 ∧ Mem e.2) ∧ v.length ≤ 35184372087808
theorem badV_le (v : List Eg) : badV v ≤ v.length := List.findIdx_le_length
theorem badL_le (v : List (List Eg)) : badL v ≤ v.length := List.findIdx_le_length
theorem badV_ok {v : List Eg} {j : Nat} (h : j < badV v) : okF (gat v j).2 = true := by
  have hl := Nat.lt_of_lt_of_le h (badV_le v)
  have := List.not_of_lt_findIdx h
  rw [gat_get hl]
  simpa using this
theorem badV_at {v : List Eg} (h : badV v < v.length) : okF (gat v (badV v)).2 = false := by
  have := List.findIdx_getElem (w := h)
  rw [gat_get h]
  have h2 : (!okF v[badV v].2) = true := this
  simpa using h2
theorem badL_ok {L : List (List Eg)} {j : Nat} (h : j < badL L) : badV (lat L j) = (lat L j).length := by
  have hl := Nat.lt_of_lt_of_le h (badL_le L)
  have := List.not_of_lt_findIdx h
  rw [lat_get hl]
  have h2 := badV_le L[j]
  have h3 : ¬ badV L[j] < L[j].length := by simpa using this
  omega
theorem badL_at {L : List (List Eg)} (h : badL L < L.length) : badV (lat L (badL L)) < (lat L (badL L)).length := by
  have := List.findIdx_getElem (w := h)
  rw [lat_get h]
  exact of_decide_eq_true this
theorem light_ok {L : List (List Eg)} (h : lightB L = true) (hm : ∀ v ∈ L, MemV v) : L.length ≤ 20 ∧ ∀ v ∈ L, v.length ≤ 60 ∧ ∀ e ∈ v, okF e.2 = true := by
  unfold lightB at h
  simp only [Bool.and_eq_true, decide_eq_true_eq] at h
  obtain ⟨⟨h1, h2⟩, h3⟩ := h
  refine ⟨h3, ?_⟩
  have hlen : ∀ i, i < L.length → ((lat L i).length : Int) ≤ 35184372087808 := fun i hi => by have := (hm _ (lat_mem hi)).2; omega
  have key : ∀ i, i ≤ L.length → 0 ≤ ltot L i ∧ ltot L i ≤ (i : Int) * 35184372087808 ∧ ∀ x, x < i → ((lat L x).length : Int) ≤ ltot L i := by
    intro i
    induction i with
    | zero => intro _; exact ⟨Int.le_refl _, by simp [ltot], fun x hx => by omega⟩
    | succ i ih =>
      intro hi
      obtain ⟨k1, k2, k3⟩ := ih (by omega)
      have hl := hlen i (by omega)
      have e : ltot L (i + 1) = ltot L i + ((lat L i).length : Int) := IntWalk.i64_in _ ⟨by omega, by omega⟩
      refine ⟨by omega, by omega, fun x hx => ?_⟩
      by_cases hxi : x = i
      · rw [hxi, e]; omega
      · have := k3 x (by omega); omega
  obtain ⟨k1, k2, k3⟩ := key L.length (Nat.le_refl _)
  intro v hv
  obtain ⟨i, hi, rfl⟩ := List.getElem_of_mem hv
  have hle := k3 i hi
  rw [lat_get hi] at hle
  refine ⟨by omega, fun e he => ?_⟩
  obtain ⟨j, hj, rfl⟩ := List.getElem_of_mem he
  have hb := badL_ok (L := L) (j := i) (by omega)
  rw [lat_get hi] at hb
  have := badV_ok (v := L[i]) (j := j) (by omega)
  rw [gat_get hj] at this
  exact this
section
variable {P : Program}
theorem b_addw (t : TypeId) (x y : Int) : OpOb P (.bin .add t) [li x, li y] (li (IntKind.i64.wrap (x + y))) := op_lit (vs := [.int .i64 x, .int .i64 y]) fun w => by simp [OpK.run, eqGuard, binOp, Op.intArith]
end
section
variable {I : WInv}

def lgst (L : List (List Eg)) (n i : Int) : Go.Proofs.Ytpampkliahopdaa.St := ⟨[(0, .cv (.one (.b (.it (slI 1 ((L).map (rowM))))))), (3, .cv (.one (.b (.lit (.int .i64 n))))), (4, .cv (.one (.b (.lit (.int .i64 i)))))], [], 50⟩
def lkst (L : List (List Eg)) (n i k : Int) : Go.Proofs.Ytpampkliahopdaa.St := ⟨[(0, .cv (.one (.b (.it (slI 1 ((L).map (rowM))))))), (3, .cv (.one (.b (.lit (.int .i64 n))))), (4, .cv (.one (.b (.lit (.int .i64 i))))), (5, .cv (.one (.b (.lit (.int .i64 k)))))], [], 50⟩
theorem light_row {L : List (List Eg)} (hm : ∀ v ∈ L, MemV v) (hl : L.length ≤ 35184372087808) (n : Int) (i k : Nat) (hi : i < L.length) (hk : k < (lat L i).length) : (okF (gat (lat L i) k).2 = true → Rnd Try.prog I 46 (loopC Try.prog 10 1) (lkst L n i k) .normal (lkst L n i ((k + 1 : Nat) : Int))) ∧ (okF (gat (lat L i) k).2 = false → Rnd Try.prog I 46 (loopC Try.prog 10 1) (lkst L n i k) .ret ⟨[(2, .cv (.one (.b (.lit (.bool false)))))], [], 50⟩) := by
  have hv := hm _ (lat_mem hi)
  have he := hv.1 _ (gat_mem hk)
  have hlen := hv.2
  have l := fun b hb => light2_sp (I := I) [(gat (lat L i) k).2] (by intro x hx; simp at hx; subst hx; exact he.2) (by simp) b hb
  refine ⟨fun h => ?_, fun h => ?_⟩
  · have l := l true (by simp [h])
    exact rnd_run 1000 [pk (sl_idx 56 23 1 ((L).map (rowM)) i (i : Int) (rowM (lat L i)) (by kernel_rfl) (by kernel_rfl) (by omega) (lat_row hi)), pk (sl_len2 23 41 3 5 (((lat L i)).map (rowG)) (((lat L i)).length : Int) (by kernel_rfl) (by rw [List.length_map])), pk (b_lss 3 (k : Int) (((lat L i)).length : Int) true (decide_eq_true (by omega))), pk (sl_idx 56 23 1 ((L).map (rowM)) i (i : Int) (rowM (lat L i)) (by kernel_rfl) (by kernel_rfl) (by omega) (lat_row hi)), pk (sl_idx 23 41 5 (((lat L i)).map (rowG)) k (k : Int) (rowG (gat (lat L i) k)) (by kernel_rfl) (by kernel_rfl) (by omega) (gat_row hk)), pk (bs1_frac (gat (lat L i) k).2), po (l), ⟨.auto, trivial⟩, pk (b_add 3 (k : Int) 1 ⟨by omega, by omega⟩)] (by kernel_rfl)
  · have l := l false (by simp [h])
    exact rnd_run 1000 [pk (sl_idx 56 23 1 ((L).map (rowM)) i (i : Int) (rowM (lat L i)) (by kernel_rfl) (by kernel_rfl) (by omega) (lat_row hi)), pk (sl_len2 23 41 3 5 (((lat L i)).map (rowG)) (((lat L i)).length : Int) (by kernel_rfl) (by rw [List.length_map])), pk (b_lss 3 (k : Int) (((lat L i)).length : Int) true (decide_eq_true (by omega))), pk (sl_idx 56 23 1 ((L).map (rowM)) i (i : Int) (rowM (lat L i)) (by kernel_rfl) (by kernel_rfl) (by omega) (lat_row hi)), pk (sl_idx 23 41 5 (((lat L i)).map (rowG)) k (k : Int) (rowG (gat (lat L i) k)) (by kernel_rfl) (by kernel_rfl) (by omega) (gat_row hk)), pk (bs1_frac (gat (lat L i) k).2), po (l), ⟨.auto, trivial⟩] (by kernel_rfl)
theorem light3_sp (L : List (List Eg)) (hm : ∀ v ∈ L, MemV v) (hl : L.length ≤ 35184372087808) : Sp Try.prog I 10 [.one (.b (.it (slI 1 (L.map rowM))))] (lb (lightB L)) := by
  have step : ∀ i, i < badL L → Rnd Try.prog I 46 (loopC Try.prog 10 0) (lgst L (ltot L i) i) .normal (lgst L (ltot L (i + 1)) ((i + 1 : Nat) : Int)) := fun i hb => by
    have hi := Nat.lt_of_lt_of_le hb (badL_le L)
    have hok := badL_ok hb
    have hv := hm _ (lat_mem hi)
    have hlen := hv.2
    have lo : LoopTr Try.prog I 46 (loopC Try.prog 10 1) (lkst L (ltot L (i + 1)) i ((0 : Nat) : Int)) (.exit 2) (lkst L (ltot L (i + 1)) i (lat L i).length) := loop_up (by simp) (fun k => lkst L (ltot L (i + 1)) i k) (lat L i).length (fun k hk => (light_row hm hl _ i k hi hk).1 (badV_ok (by omega))) (by
      exact rnd_run 1000 [pk (sl_idx 56 23 1 ((L).map (rowM)) i (i : Int) (rowM (lat L i)) (by kernel_rfl) (by kernel_rfl) (by omega) (lat_row hi)), pk (sl_len2 23 41 3 5 (((lat L i)).map (rowG)) (((lat L i)).length : Int) (by kernel_rfl) (by rw [List.length_map])), pk (b_lss 3 ((lat L i).length : Int) (((lat L i)).length : Int) false (decide_eq_false (by omega)))] (by kernel_rfl))
    exact rnd_run 1000 [pk (sl_len2 56 23 3 1 ((L).map (rowM)) ((L).length : Int) (by kernel_rfl) (by rw [List.length_map])), pk (b_lss 3 (i : Int) ((L).length : Int) true (decide_eq_true (by omega))), pk (sl_idx 56 23 1 ((L).map (rowM)) i (i : Int) (rowM (lat L i)) (by kernel_rfl) (by kernel_rfl) (by omega) (lat_row hi)), pk (sl_len2 23 41 3 5 (((lat L i)).map (rowG)) (((lat L i)).length : Int) (by kernel_rfl) (by rw [List.length_map])), pk (b_addw 3 (ltot L i) (((lat L i)).length : Int)), pl (lo), pk (b_add 3 (i : Int) 1 ⟨by omega, by omega⟩)] (by kernel_rfl)
  by_cases hb : badL L < L.length
  · have hbv := badL_at hb
    have hB : lightB L = false := by unfold lightB; simp [hb]
    rw [hB]
    have lo : LoopTr Try.prog I 46 (loopC Try.prog 10 0) (lgst L (ltot L 0) ((0 : Nat) : Int)) .ret ⟨[(2, .cv (.one (.b (.lit (.bool false)))))], [], 50⟩ := loop_up (by simp) (fun i => lgst L (ltot L i) i) (badL L) step (by
      generalize badL L = i at *
      have hi := hb
      have hv := hm _ (lat_mem hi)
      have hlen := hv.2
      have lo : LoopTr Try.prog I 46 (loopC Try.prog 10 1) (lkst L (ltot L (i + 1)) i ((0 : Nat) : Int)) .ret ⟨[(2, .cv (.one (.b (.lit (.bool false)))))], [], 50⟩ := loop_up (by simp) (fun k => lkst L (ltot L (i + 1)) i k) (badV (lat L i)) (fun k hk => (light_row hm hl _ i k hi (Nat.lt_of_lt_of_le hk (badV_le _))).1 (badV_ok hk)) ((light_row hm hl _ i _ hi hbv).2 (badV_at hbv))
      exact rnd_run 1000 [pk (sl_len2 56 23 3 1 ((L).map (rowM)) ((L).length : Int) (by kernel_rfl) (by rw [List.length_map])), pk (b_lss 3 (i : Int) ((L).length : Int) true (decide_eq_true (by omega))), pk (sl_idx 56 23 1 ((L).map (rowM)) i (i : Int) (rowM (lat L i)) (by kernel_rfl) (by kernel_rfl) (by omega) (lat_row hi)), pk (sl_len2 23 41 3 5 (((lat L i)).map (rowG)) (((lat L i)).length : Int) (by kernel_rfl) (by rw [List.length_map])), pk (b_addw 3 (ltot L i) (((lat L i)).length : Int)), pl (lo)] (by kernel_rfl))
    exact sp_run (nt := 46) 1000 [pl (lo)] (by kernel_rfl)
  · have e : badL L = L.length := by have := badL_le L; omega
    rw [e] at step
    have lo : LoopTr Try.prog I 46 (loopC Try.prog 10 0) (lgst L (ltot L 0) ((0 : Nat) : Int)) (.exit 0) (lgst L (ltot L L.length) L.length) := loop_up (by simp) (fun i => lgst L (ltot L i) i) L.length step (by
      exact rnd_run 1000 [pk (sl_len2 56 23 3 1 ((L).map (rowM)) ((L).length : Int) (by kernel_rfl) (by rw [List.length_map])), pk (b_lss 3 (L.length : Int) ((L).length : Int) false (decide_eq_false (by omega)))] (by kernel_rfl))
    by_cases h1 : ltot L L.length ≤ 60
    · by_cases h2 : L.length ≤ 20
      · have hB : lightB L = true := by unfold lightB; simp [hb, h1, h2]
        rw [hB]
        exact sp_run (nt := 46) 1000 [pl (lo), pk (b_leq 3 (ltot L L.length) 60 true (decide_eq_true (by omega))), pk (sl_len2 56 23 3 1 ((L).map (rowM)) ((L).length : Int) (by kernel_rfl) (by rw [List.length_map])), pk (b_leq 3 ((L).length : Int) 20 true (decide_eq_true (by omega)))] (by kernel_rfl)
      · have hB : lightB L = false := by unfold lightB; simp [h2]
        rw [hB]
        exact sp_run (nt := 46) 1000 [pl (lo), pk (b_leq 3 (ltot L L.length) 60 true (decide_eq_true (by omega))), pk (sl_len2 56 23 3 1 ((L).map (rowM)) ((L).length : Int) (by kernel_rfl) (by rw [List.length_map])), pk (b_leq 3 ((L).length : Int) 20 false (decide_eq_false (by omega)))] (by kernel_rfl)
    · have hB : lightB L = false := by unfold lightB; simp [h1]
      rw [hB]
      exact sp_run (nt := 46) 1000 [pl (lo), pk (b_leq 3 (ltot L L.length) 60 false (decide_eq_false (by omega)))] (by kernel_rfl)
def smallB (n : Int) : Bool := decide (n ≤ 60) || decide (4096 < n)
theorem small_sp (n : Int) : Sp Try.prog I 14 [ci n] (lb (smallB n)) := by
  unfold smallB
  by_cases h1 : n ≤ 60
  · rw [decide_eq_true h1, Bool.true_or]
    exact sp_run (nt := 9) 1000 [pk (b_leq 3 n 60 true (decide_eq_true (by omega)))] (by kernel_rfl)
  · rw [decide_eq_false h1, Bool.false_or]
    by_cases h2 : 4096 < n
    · rw [decide_eq_true h2]
      exact sp_run (nt := 9) 1000 [pk (b_leq 3 n 60 false (decide_eq_false (by omega))), pk (b_gtr 3 n 4096 true (decide_eq_true (by omega)))] (by kernel_rfl)
    · rw [decide_eq_false h2]
      exact sp_run (nt := 9) 1000 [pk (b_leq 3 n 60 false (decide_eq_false (by omega))), pk (b_gtr 3 n 4096 false (decide_eq_false (by omega)))] (by kernel_rfl)

/-! ### the small example -/
theorem bs1_vec (x : Int × Rat) {c : Bool} {k : Nat} : OpOb Try.prog (.bs 23 1 [0]) [.cv (.ag [.b (.lit (.int .i64 x.1)), .b (.it (fF c k x.2))])] (tit (vecI c k [x])) :=
  bs_ob (e := 41) (cts := [.ag [.b (.lit (.int .i64 x.1)), .b (.it (fF c k x.2))]]) (z := [.int .i64 0, .bool false, .slice none 0 0, .bool false, .slice none 0 0]) (bytes := 72) (by kernel_rfl) (by decide) (by kernel_rfl) rfl rfl (by intro r hr; simp at hr; subst hr; rfl)
theorem bs2_vec (x y : Int × Rat) {c : Bool} {k : Nat} : OpOb Try.prog (.bs 23 2 [0, 1]) [.cv (.ag [.b (.lit (.int .i64 x.1)), .b (.it (fF c k x.2))]), .cv (.ag [.b (.lit (.int .i64 y.1)), .b (.it (fF c k y.2))])] (tit (vecI c k [x, y])) :=
  bs_ob (e := 41) (cts := [.ag [.b (.lit (.int .i64 x.1)), .b (.it (fF c k x.2))], .ag [.b (.lit (.int .i64 y.1)), .b (.it (fF c k y.2))]]) (z := [.int .i64 0, .bool false, .slice none 0 0, .bool false, .slice none 0 0]) (bytes := 72) (by kernel_rfl) (by decide) (by kernel_rfl) rfl rfl (by intro r hr; simp at hr; rcases hr with rfl | rfl <;> rfl)
abbrev exA : Ve := [(1, 2)]
abbrev exB : Ve := [(0, 5), (1, 3)]
theorem ex_code : bcode 2 exA exB = 0 := by decide
theorem ex_dot : dsum exA exB 1 = 6 := by decide +kernel
theorem awakev_sp : Sp Try.prog I 11 [] (lb true) := by
  have d := dot_sp (I := I) (c := true) (c' := true) (k := 2) (j := 2) 2 exA exB ex_code (by decide) (by omega) (by omega) (by decide) (by decide)
  have d : Sp Try.prog I 21 [.one (.b (.it (vecI true 2 exA))), .one (.b (.it (vecI true 2 exB))), ci 2] (.tu [fc true 7 6, ci 0]) := by
    rw [show exA.length = 1 from rfl, ex_dot] at d
    exact d
  exact sp_run (nt := 26) 1000 [po (wholeF (I := I) 2 ⟨by omega, by omega⟩), pk (bs1_vec (c := true) (k := 2) (1, 2)), po (wholeF (I := I) 5 ⟨by omega, by omega⟩), po (wholeF (I := I) 3 ⟨by omega, by omega⟩), pk (bs2_vec (c := true) (k := 2) (0, 5) (1, 3)), po (d), ⟨.auto, trivial⟩, po (wholeF (I := I) 6 ⟨by omega, by omega⟩), po (sameFracF_eq (I := I) (k := 7) (j := 2) (p := 6) (q := (6 : Rat)) rfl)] (by kernel_rfl)

/-! ### vectors of small fractions -/
def vv (v : List Eg) : Ve := v.map fun e => (e.1, vq e.2)
theorem vv_len (v : List Eg) : (vv v).length = v.length := by simp [vv]
theorem vec_le {v : List Eg} (h : ∀ e ∈ v, okF e.2 = true) (hm : MemV v) : ItLe (vgI v) (vecI false 12 (vv v)) :=
  slI_map (fun e => (e.1, vq e.2)) fun e he => I0le.cons X0le.refl (rowF_le (h e he) (hm.1 e he).1)
theorem frs_le {l : List Fg} (h : ∀ p ∈ l, okF p = true) (hm : ∀ p ∈ l, W2 p ∧ Mem p) : ItLe (slI 4 (rowsF l)) (frsI false 12 (l.map vq)) :=
  slI_map vq fun p hp => rowF_le (h p hp) (hm p hp).1
theorem frl_ile {p : Fg} (h : okF p = true) (hw : W2 p) : ILe (frl p) [.b (.it (fF false 12 (vq p)))] := by
  intro N w g x hx
  obtain ⟨vs, e, hv⟩ := frl_le h hw N w g (.agg x.toArray) ⟨x, rfl, hx⟩
  injection e with e
  have e := congrArg Array.toList e
  simp only at e
  subst e
  exact hv

/-! ### arguments -/
def AVec (w : World) (v : Value) (x : List Eg) : Prop := MemV x ∧ (CT.one (.b (.it (vgI x)))).sem (fun b => b < w.heap.size) w G0 v
def AVecs (w : World) (v : Value) (x : List (List Eg)) : Prop := (∀ y ∈ x, MemV y) ∧ x.length ≤ 35184372087808 ∧ (CT.one (.b (.it (slI 1 (x.map rowM))))).sem (fun b => b < w.heap.size) w G0 v
end
section
open Go.ChangeShapes Go.WideShapes Go.ChangeAt Go.Joins
theorem Try.cellsEntry : Try.prog.cellsOf 41 = 5 := by kernel_rfl
theorem Try.cellsVector : Try.prog.cellsOf 23 = 1 := by kernel_rfl
theorem one_agree {v : Value} {A : Option Addr} {n c : Nat} {l : List Value} (h : l = [v]) (e : l = [.slice A n c]) : v = .slice A n c := by
  rw [h] at e; exact (List.cons.inj e).1
set_option maxRecDepth 100000 in
theorem trodEntry {H : Type} {enc : TypeId × Value → H} {W : World} {base fuel : Nat} {spare : Nat → Bool} {held : Bool} {cs : List Value} {y : DataW H × List MemPlace} (h : DataW.trod enc Try.prog W base spare held fuel 41 cs = some y)
    (hz : ∀ x ∈ DataW.weights Try.prog 41 y.1, x ≤ reachBytes) : ∃ p : Eg, (W2 p.2 ∧ Mem p.2) ∧ semL0 (fun b => b < W.heap.size) W (rowG p) cs := by
  obtain ⟨y0, y1, m, rfl, hl, h0, h1⟩ := trod_struct2 Try.underlying41 h
  rw [Try.cellsEntry] at hl
  match cs, hl with
  | [c0, c1, c2, c3, c4], _ =>
    have h0 : DataW.trod enc Try.prog W base spare held m 3 [c0] = some y0 := h0
    have h1 : DataW.trod enc Try.prog W base spare held m 39 [c1, c2, c3, c4] = some y1 := h1
    obtain ⟨z, e0, _⟩ := DataW.trod_int Try.underlying3 h0
    simp only [List.cons.injEq, and_true] at e0
    subst e0
    obtain ⟨p, k1, k2, k3⟩ := trodFrac h1 (fun x hx => hz x (by
      simp only [DataW.weights, Try.underlying41]
      exact DataW.weights_mem_each (j := 1) (t := 39) (d := y1.1) rfl rfl x hx))
    exact ⟨(z, p), ⟨k1, k2⟩, [_], _, rfl, rfl, semL_semL0 (xs := rowF p) k3⟩
set_option maxRecDepth 100000 in
theorem trodVec {H : Type} {enc : TypeId × Value → H} {W : World} {base fuel : Nat} {spare : Nat → Bool} {held : Bool} {cs : List Value} {y : DataW H × List MemPlace} (h : DataW.trod enc Try.prog W base spare held fuel 23 cs = some y)
    (hz : ∀ x ∈ DataW.weights Try.prog 23 y.1, x ≤ reachBytes) : ∃ v : List Eg, MemV v ∧ (vgI v).T (fun b => b < W.heap.size) W cs := by
  obtain ⟨xs, h1, h2, h3⟩ := trodRows (Q := fun p : Eg => W2 p.2 ∧ Mem p.2) (row := rowG) (sz := 5) Try.underlying23 Try.cellsEntry (by omega) (of_decide_eq_true (by kernel_rfl)) h hz (fun n vs d ps hd hw => trodEntry hd hw)
  exact ⟨xs, ⟨h1, h2⟩, h3⟩
theorem slice_arg {w : World} {v : Value} {sz : Nat} {rows : List (List It0)} {cs : List Value} (hv : v.cells.toList = cs) (hn : ∀ x, v ≠ .agg x) (h : (slI sz rows).T (fun b => b < w.heap.size) w cs) : (CT.one (.b (.it (slI sz rows)))).sem (fun b => b < w.heap.size) w G0 v := by
  obtain ⟨A, c, e, rest⟩ := h
  have : v = .slice A rows.length c := by
    cases v with
    | agg x => exact absurd rfl (hn x)
    | slice a n c' => rw [← hv] at e; exact (List.cons.inj e).1
    | _ => rw [← hv] at e; cases e
  subst this
  exact ⟨A, c, rfl, rest⟩
set_option maxRecDepth 100000 in
theorem argVec {H : Type} {enc : TypeId × Value → H} {W : World} {r : Reach} {b0 : Nat} {v : Value} {d : DataW H} {p : List MemPlace} (hv : Value.okWide Try.prog W r b0 23 v) (h : DataW.Trod enc Try.prog W 0 (fun _ => true) true 23 v d p)
    (hz : ∀ x ∈ DataW.weights Try.prog 23 d, x ≤ reachBytes) : ∃ q, AVec W v q := by
  obtain ⟨fuel, hf⟩ := h
  obtain ⟨xs, h1, h2⟩ := trodVec hf hz
  exact ⟨xs, h1, slice_arg rfl (fun x e => by subst e; cases hv) h2⟩
set_option maxRecDepth 100000 in
theorem argVecs {H : Type} {enc : TypeId × Value → H} {W : World} {r : Reach} {b0 : Nat} {v : Value} {d : DataW H} {p : List MemPlace} (hv : Value.okWide Try.prog W r b0 56 v) (h : DataW.Trod enc Try.prog W 0 (fun _ => true) true 56 v d p)
    (hz : ∀ x ∈ DataW.weights Try.prog 56 d, x ≤ reachBytes) : ∃ q, AVecs W v q := by
  obtain ⟨fuel, hf⟩ := h
  obtain ⟨xs, h1, h2, h3⟩ := trodRows (Q := fun p : List Eg => MemV p) (row := rowM) (sz := 1) Try.underlying56 Try.cellsVector (by omega) (of_decide_eq_true (by kernel_rfl)) hf hz (fun n vs d ps hd hw => by
    obtain ⟨v, k1, k2⟩ := trodVec hd hw
    exact ⟨v, k1, vs, [], by simp, k2, rfl⟩)
  exact ⟨xs, h1, h2, slice_arg rfl (fun x e => by subst e; cases hv) h3⟩
/-- sizes of the arguments, ahead of the walk -/
theorem returnsSized {H : Type} {enc : TypeId × Value → H} {a : Assume} {C : Checked} {os : Os} {f : FuncId} {fn : Func} {s : ChangeSpec} {conds : List PathCond} {apart fresh handsOn again : Bool}
    (own : ownKnob C.prog.godebug = none) (started : os.Started) (noInit : C.prog.inits.idxOf? f = none) (hfn : C.prog.funcs[f]? = some fn)
    (witness : ∃ (w : World) (tape : Tape) (i : Input), w.os = os ∧ (w.forCall tape i).Shaped C.prog ∧ i.vars = [] ∧ Input.okWide C.prog (w.forCall tape i) .any w.heap.size f i ∧
      s.pre6 enc C.prog fn conds apart (w.forCall tape i).memory i.args ∧ a.holds C.prog (lone (Frame.enter C.prog f i.args .normal) [] (w.forCall tape i)))
    (contract : ∀ (W : World) (base : Nat) (args : Array Value) (ds gs : List (DataW H)) (before : List MemPlace),
      (∀ (j : Nat) t v, fn.params[j]? = some t → args[j]? = some v → Value.okWide C.prog W .any base t v) →
      DataW.Whole enc C.prog fn.params.toList s.vars apart W args.toList ds gs before →
      conds.all (PathCond.test C.prog ⟨fn.params.toList, ds, s.plain.varTypes C.prog, gs⟩) = true →
      (DataW.weightsEach C.prog (fn.params.toList ++ s.plain.varTypes C.prog) (ds ++ gs)).all (· ≤ reachBytes) = true → True →
      a.holds C.prog (lone (Frame.enter C.prog f args .normal) [] W) →
      Calls C.prog f args W fun e W' => ∃ v, e = .returned v ∧ s.post enc C.prog fn apart fresh handsOn again W args v W') :
    ReturnsInHanded a C os f .any (s.pre6 enc C.prog fn conds apart) (s.post enc C.prog fn apart fresh handsOn again) := by
  obtain ⟨w, tape, i, a1, a2, a3, a4, ⟨a5, a6⟩, a7⟩ := witness
  have h := returnsInHanded_of_change_and (X := fun _ _ => True) (fun _ _ _ _ h => h) own started noInit hfn ⟨w, tape, i, a1, a2, a3, a4, ⟨⟨a5, trivial⟩, a6⟩, a7⟩ contract
  simp only [and_true] at h
  exact h
end
end Go.Proofs.Ytpampkliahopdaa

/- The laws' common ground: arguments that passed Light, as vectors with short fractions. -/
namespace Go.Proofs.Ytpampkliahopdaa
open Go Go.RowKit
set_option linter.unusedVariables false
set_option linter.unusedSimpArgs false

theorem bsM1 (u : List Eg) : OpOb Try.prog (.bs 56 1 [0]) [tit (vgI u)] (tit (slI 1 ([u].map rowM))) :=
  bs_ob (e := 23) (cts := [.one (.b (.it (vgI u)))]) (z := [.slice none 0 0]) (bytes := 24) (by kernel_rfl) (by decide) (by kernel_rfl) rfl rfl (by intro r hr; simp at hr; subst hr; rfl)
theorem bsM2 (u v : List Eg) : OpOb Try.prog (.bs 56 2 [0, 1]) [tit (vgI u), tit (vgI v)] (tit (slI 1 ([u, v].map rowM))) :=
  bs_ob (e := 23) (cts := [.one (.b (.it (vgI u))), .one (.b (.it (vgI v)))]) (z := [.slice none 0 0]) (bytes := 24) (by kernel_rfl) (by decide) (by kernel_rfl) rfl rfl (by intro r hr; simp at hr; rcases hr with rfl | rfl <;> rfl)
theorem bsM3 (u v x : List Eg) : OpOb Try.prog (.bs 56 3 [0, 1, 2]) [tit (vgI u), tit (vgI v), tit (vgI x)] (tit (slI 1 ([u, v, x].map rowM))) :=
  bs_ob (e := 23) (cts := [.one (.b (.it (vgI u))), .one (.b (.it (vgI v))), .one (.b (.it (vgI x)))]) (z := [.slice none 0 0]) (bytes := 24) (by kernel_rfl) (by decide) (by kernel_rfl) rfl rfl (by intro r hr; simp at hr; rcases hr with rfl | rfl | rfl <;> rfl)
/-- what a law may say of a vector that passed -/
structure OkV (v : List Eg) : Prop where
  len : v.length ≤ 60
  ok : ∀ e ∈ v, okF e.2 = true
  mem : MemV v
theorem OkV.le {v : List Eg} (h : OkV v) : CTle (.one (.b (.it (vgI v)))) (.one (.b (.it (vecI false 12 (vv v))))) := (vec_le h.ok h.mem).x.one
theorem light1_cases {I : WInv} (u : List Eg) (hu : MemV u) : ∃ b, Sp Try.prog I 10 [.one (.b (.it (slI 1 ([u].map rowM))))] (lb b) ∧ (b = true → OkV u) := by
  have hm : ∀ x ∈ [u], MemV x := by intro x hx; simp at hx; subst hx; exact hu
  refine ⟨_, light3_sp (I := I) [u] hm (by simp), fun h => ?_⟩
  obtain ⟨_, hall⟩ := light_ok h hm
  exact ⟨(hall u (by simp)).1, (hall u (by simp)).2, hu⟩
theorem light2_cases {I : WInv} (u v : List Eg) (hu : MemV u) (hv : MemV v) : ∃ b, Sp Try.prog I 10 [.one (.b (.it (slI 1 ([u, v].map rowM))))] (lb b) ∧ (b = true → OkV u ∧ OkV v) := by
  have hm : ∀ x ∈ [u, v], MemV x := by intro x hx; simp at hx; rcases hx with rfl | rfl <;> assumption
  refine ⟨_, light3_sp (I := I) [u, v] hm (by simp), fun h => ?_⟩
  obtain ⟨_, hall⟩ := light_ok h hm
  exact ⟨⟨(hall u (by simp)).1, (hall u (by simp)).2, hu⟩, ⟨(hall v (by simp)).1, (hall v (by simp)).2, hv⟩⟩
theorem light3_cases {I : WInv} (u v x : List Eg) (hu : MemV u) (hv : MemV v) (hx : MemV x) : ∃ b, Sp Try.prog I 10 [.one (.b (.it (slI 1 ([u, v, x].map rowM))))] (lb b) ∧ (b = true → OkV u ∧ OkV v ∧ OkV x) := by
  have hm : ∀ y ∈ [u, v, x], MemV y := by intro y hy; simp at hy; rcases hy with rfl | rfl | rfl <;> assumption
  refine ⟨_, light3_sp (I := I) [u, v, x] hm (by simp), fun h => ?_⟩
  obtain ⟨_, hall⟩ := light_ok h hm
  exact ⟨⟨(hall u (by simp)).1, (hall u (by simp)).2, hu⟩, ⟨(hall v (by simp)).1, (hall v (by simp)).2, hv⟩, ⟨(hall x (by simp)).1, (hall x (by simp)).2, hx⟩⟩
theorem frac1_cases {I : WInv} (p : Fg) (hp : W2 p) (mp : Mem p) : ∃ b, Sp Try.prog I 19 [.one (.b (.it (slI 4 (rowsF [p]))))] (lb b) ∧ (b = true → okF p = true) := by
  refine ⟨_, light2_sp (I := I) [p] (by intro x hx; simp at hx; subst hx; exact mp) (by simp) _ rfl, fun h => ?_⟩
  simp at h
  exact h
theorem fracs_cases {I : WInv} (l : List Fg) (hl : ∀ p ∈ l, W2 p ∧ Mem p) (hn : l.length ≤ 35184372087808) : ∃ b, Sp Try.prog I 19 [.one (.b (.it (slI 4 (rowsF l))))] (lb b) ∧ (b = true → (∀ p ∈ l, okF p = true) ∧ l.length < 20) := by
  refine ⟨_, light2_sp (I := I) l (fun p hp => (hl p hp).2) hn _ rfl, fun h => ?_⟩
  simp only [Bool.and_eq_true, List.all_eq_true, decide_eq_true_eq] at h
  exact h
theorem small_ok {n : Int} (h : smallB n = true) : n ≤ 60 ∨ 4096 < n := by
  unfold smallB at h
  simpa using h
theorem valid_nat {n : Int} {v : Ve} (h : smallB n = true) (h0 : vcode n v = 0) : ∃ m : Nat, n = (m : Int) ∧ m ≤ 60 := by
  have hd := (val_of h0).dim
  have := small_ok h
  exact ⟨n.toNat, by omega, by omega⟩
section
variable {I : WInv} {k j : Nat}
theorem samev_sp (v : Ve) (hl : v.length ≤ 1000000000) : Sp Try.prog I 28 [.one (.b (.it (vecI true k v))), .one (.b (.it (vecI true j v)))] (lb true) := by
  have s := sameVec_sp (I := I) (k := k) (j := j) v hl
  exact sp_run (nt := 8) 1000 [po (s)] (by kernel_rfl)
theorem samev_nil : Sp Try.prog I 28 [.one (.b (.lit (.slice none 0 0))), .one (.b (.lit (.slice none 0 0)))] (lb true) :=
  (samev_sp (I := I) (k := 1) (j := 1) [] (by simp)).wk ⟨nil_slI, nil_slI, trivial⟩
end

/-! ### sums -/
def sumr (n : Nat) (f : Nat → Rat) : Rat := match n with
  | 0 => 0
  | n + 1 => sumr n f + f n
theorem sumr_congr {f g : Nat → Rat} : ∀ {n : Nat}, (∀ i, i < n → f i = g i) → sumr n f = sumr n g
  | 0, _ => rfl
  | n + 1, h => by rw [sumr, sumr, sumr_congr fun i hi => h i (by omega), h n (by omega)]
theorem sumr_add (f g : Nat → Rat) : ∀ n, sumr n (fun i => f i + g i) = sumr n f + sumr n g
  | 0 => (Rat.add_zero _).symm
  | n + 1 => by rw [sumr, sumr, sumr, sumr_add f g n]; grind
theorem sumr_mul (c : Rat) (f : Nat → Rat) : ∀ n, sumr n (fun i => c * f i) = c * sumr n f
  | 0 => (Rat.mul_zero _).symm
  | n + 1 => by rw [sumr, sumr, sumr_mul c f n]; grind
theorem sumr_zero : ∀ n, sumr n (fun _ => 0) = 0
  | 0 => rfl
  | n + 1 => by rw [sumr, sumr_zero n, Rat.add_zero]
theorem sumr_cut {f : Nat → Rat} {t : Nat} : ∀ {m : Nat}, t ≤ m → (∀ y, t ≤ y → y < m → f y = 0) → sumr m f = sumr t f := by
  intro m
  induction m with
  | zero => intro h _; rw [Nat.le_zero.1 h]
  | succ m ih =>
    intro h hz
    by_cases e : t = m + 1
    · rw [e]
    · rw [sumr, hz m (by omega) (by omega), Rat.add_zero, ih (by omega) fun y h1 h2 => hz y h1 (by omega)]
/-- the index where entry number i begins -/
def vix (v : Ve) (n i : Nat) : Nat := if i < v.length then (vat v i).1.toNat else n
theorem dsum_sum {n : Nat} {a b : Ve} (ha : Val (n : Int) a) : dsum a b a.length = sumr n fun x => atq a (x : Int) * atq b (x : Int) := by
  have key : ∀ i, i ≤ a.length → sumr (vix a n i) (fun x => atq a (x : Int) * atq b (x : Int)) = dsum a b i := by
    intro i
    induction i with
    | zero =>
      intro _
      have : sumr (vix a n 0) (fun x => atq a (x : Int) * atq b (x : Int)) = sumr 0 (fun x => atq a (x : Int) * atq b (x : Int)) := sumr_cut (Nat.zero_le _) fun y _ hy => by
        have h0 : vlow a 0 = 0 := ha.low_zero
        have := (ha.skip (t := 0) (y := (y : Int)) (by omega) fun h => by
          rw [h0] at h ⊢
          unfold vix at hy
          rw [if_pos h] at hy
          have := ha.ge 0 h
          omega).1
        rw [this, Rat.zero_mul]
      rw [this]; rfl
    | succ i ih =>
      intro hi
      have hi' : i < a.length := hi
      have h1 := ih (by omega)
      have g1 := ha.ge i hi'
      have g2 := ha.lt i hi'
      have e1 : vix a n i = (vat a i).1.toNat := by unfold vix; rw [if_pos hi']
      have hx : ((vat a i).1.toNat : Int) = (vat a i).1 := by omega
      have hlow : vlow a (vat a i).1 = i := vlow_eq (by omega) (fun x hx => ha.asc x i hx hi') fun _ => Int.le_refl _
      have hat := at_low (v := a) (t := (vat a i).1) (by rw [hlow]; exact hi') (by rw [hlow])
      rw [hlow] at hat
      have hle : vix a n i + 1 ≤ vix a n (i + 1) := by
        unfold vix
        rw [if_pos hi']
        by_cases h2 : i + 1 < a.length
        · rw [if_pos h2]
          have := ha.asc i (i + 1) (by omega) h2
          omega
        · rw [if_neg h2]; omega
      have e2 : sumr (vix a n (i + 1)) (fun x => atq a (x : Int) * atq b (x : Int)) = sumr (vix a n i + 1) (fun x => atq a (x : Int) * atq b (x : Int)) := sumr_cut hle fun y hy1 hy2 => by
        have hl2 : vlow a ((vat a i).1 + 1) = i + 1 := by
          have := ha.low_next (t := (vat a i).1) (by rw [hlow]; exact hi') (by rw [hlow])
          rw [hlow] at this
          exact this
        have := (ha.skip (t := (vat a i).1 + 1) (y := (y : Int)) (by omega) fun h => by
          rw [hl2] at h ⊢
          unfold vix at hy2
          rw [if_pos h] at hy2
          omega).1
        rw [this, Rat.zero_mul]
      rw [e2, sumr, h1, e1, hx, hat]
      rfl
  have := key a.length (Nat.le_refl _)
  unfold vix at this
  rw [if_neg (Nat.lt_irrefl _)] at this
  exact this.symm
theorem val_code {n : Int} {v : Ve} (h : Val n v) : vcode n v = 0 := by
  unfold vcode
  rw [if_neg (by have := h.dim; omega)]
  refine findc_zero.2 fun i _ hi => ?_
  have hi : i < v.length := by omega
  unfold vchk
  rw [if_neg (by have := h.ge i hi; have := h.lt i hi; omega), if_neg (fun hh => by have := h.asc (i - 1) i (by omega) hi; omega), if_neg (h.nz i hi)]
theorem vat_left {v w : Ve} {i : Nat} (h : i < v.length) : vat (v ++ w) i = vat v i := by unfold vat; rw [List.getD_eq_getElem?_getD, List.getD_eq_getElem?_getD, List.getElem?_append_left h]
theorem vat_last {v : Ve} {x : Int × Rat} : vat (v ++ [x]) v.length = x := by unfold vat; rw [List.getD_eq_getElem?_getD, List.getElem?_append_right (Nat.le_refl _)]; simp
theorem spf_val (f : Nat → Rat) : ∀ {n : Nat}, n ≤ 4096 → Val (n : Int) (spf f n) := by
  intro n
  induction n with
  | zero => intro _; exact ⟨by omega, fun i hi => by simp [spf] at hi, fun i hi => by simp [spf] at hi, fun i j _ hj => by simp [spf] at hj, fun i hi => by simp [spf] at hi⟩
  | succ n ih =>
    intro hn
    have h := ih (by omega)
    by_cases h0 : f n = 0
    · rw [spf_zero h0]
      exact ⟨by omega, h.ge, fun i hi => by have := h.lt i hi; omega, h.asc, h.nz⟩
    · rw [spf_succ h0]
      have one : ∀ i, i < (spf f n ++ [((n : Int), f n)]).length → (i < (spf f n).length ∧ vat (spf f n ++ [((n : Int), f n)]) i = vat (spf f n) i) ∨ (i = (spf f n).length ∧ vat (spf f n ++ [((n : Int), f n)]) i = ((n : Int), f n)) := by
        intro i hi
        rw [List.length_append, List.length_singleton] at hi
        by_cases hl : i < (spf f n).length
        · exact .inl ⟨hl, vat_left hl⟩
        · have e : i = (spf f n).length := by omega
          subst e
          exact .inr ⟨rfl, vat_last⟩
      refine ⟨by omega, fun i hi => ?_, fun i hi => ?_, fun i j hij hj => ?_, fun i hi => ?_⟩
      · rcases one i hi with ⟨hl, e⟩ | ⟨_, e⟩ <;> rw [e]
        · exact h.ge i hl
        · show (0 : Int) ≤ (n : Int); omega
      · rcases one i hi with ⟨hl, e⟩ | ⟨_, e⟩ <;> rw [e]
        · have := h.lt i hl; omega
        · show (n : Int) < ((n + 1 : Nat) : Int); omega
      · rcases one j hj with ⟨hl, e⟩ | ⟨hl, e⟩
        · rcases one i (by omega) with ⟨_, e2⟩ | ⟨hl2, _⟩
          · rw [e, e2]; exact h.asc i j hij hl
          · omega
        · rcases one i (by omega) with ⟨hl2, e2⟩ | ⟨hl2, _⟩
          · rw [e, e2]; exact h.lt i hl2
          · omega
      · rcases one i hi with ⟨hl, e⟩ | ⟨_, e⟩ <;> rw [e]
        · exact h.nz i hl
        · exact h0
theorem spf_mem {f : Nat → Rat} {n : Nat} {x : Int} {q : Rat} : (x, q) ∈ spf f n ↔ ∃ i : Nat, i < n ∧ x = (i : Int) ∧ q = f i ∧ f i ≠ 0 := by
  unfold spf
  rw [List.mem_filterMap]
  constructor
  · rintro ⟨i, hi, he⟩
    by_cases h : f i = 0
    · rw [if_pos h] at he; cases he
    · rw [if_neg h] at he
      injection he with he
      injection he with h1 h2
      exact ⟨i, List.mem_range.1 hi, h1.symm, h2.symm, h⟩
  · rintro ⟨i, hi, rfl, rfl, h⟩
    exact ⟨i, List.mem_range.2 hi, by rw [if_neg h]⟩
theorem atq_mem {n : Int} {v : Ve} (hv : Val n v) {x : Int} {q : Rat} (h : (x, q) ∈ v) : atq v x = q := by
  obtain ⟨i, hi, e⟩ := List.getElem_of_mem h
  have e2 : vat v i = (x, q) := by rw [vat_get hi, e]
  have := hv.vfi_of hi
  rw [e2] at this
  unfold atq
  rw [this, e2]
theorem atq_not {v : Ve} {x : Int} (h : ∀ q, (x, q) ∉ v) : atq v x = 0 := atq_none fun hl => by
  have h1 := vfi_at hl
  have h2 : vat v (vfi v x) ∈ v := by rw [vat_get hl]; exact List.getElem_mem hl
  have e : vat v (vfi v x) = (x, (vat v (vfi v x)).2) := Prod.ext h1 rfl
  exact h (vat v (vfi v x)).2 (e ▸ h2)
theorem spf_at {f : Nat → Rat} {n x : Nat} (hn : n ≤ 4096) (hx : x < n) : atq (spf f n) (x : Int) = f x := by
  by_cases h : f x = 0
  · rw [h]
    refine atq_not fun q hq => ?_
    obtain ⟨i, _, e, _, h2⟩ := spf_mem.1 hq
    have : x = i := by omega
    subst this
    exact h2 h
  · exact atq_mem (spf_val f hn) (spf_mem.2 ⟨x, hx, rfl, rfl, h⟩)
theorem spf_self {n : Nat} {v : Ve} (hv : Val (n : Int) v) : spf (fun i => atq v (i : Int)) n = v := by
  have key : ∀ t : Nat, spf (fun i => atq v (i : Int)) t = v.take (vlow v (t : Int)) := by
    intro t
    induction t with
    | zero => rw [show vlow v ((0 : Nat) : Int) = 0 from hv.low_zero]; rfl
    | succ t ih =>
      by_cases h : vlow v (t : Int) < v.length ∧ (vat v (vlow v (t : Int))).1 = (t : Int)
      · have e := at_low h.1 h.2
        have e2 : vlow v ((t + 1 : Nat) : Int) = vlow v (t : Int) + 1 := hv.low_next h.1 h.2
        have h0 : ¬ atq v (t : Int) = 0 := by rw [e]; exact hv.nz _ h.1
        rw [spf_succ (f := fun i : Nat => atq v (i : Int)) h0, ih, e2, List.take_succ_eq_append_getElem h.1]
        congr 1
        rw [← vat_get h.1]
        have e3 : ((t : Int), atq v (t : Int)) = vat v (vlow v (t : Int)) := Prod.ext h.2.symm e
        rw [e3]
      · have e := hv.at_none h
        have e2 : vlow v ((t + 1 : Nat) : Int) = vlow v (t : Int) := low_stay h
        rw [spf_zero (f := fun i : Nat => atq v (i : Int)) e, ih, e2]
  rw [key, vlow_eq (v := v) (t := (n : Int)) (j := v.length) (Nat.le_refl _) (fun x hx => hv.lt x hx) (fun h => absurd h (Nat.lt_irrefl _)), List.take_length]
end Go.Proofs.Ytpampkliahopdaa

/- A slice of slices of one's own: a family of boxes as a symbolic rest of the list; rounds that leave that rest alone; rounds round an inner loop. -/
namespace Go.Proofs.Ytpampkliahopdaa
open Go Go.RowKit
set_option linter.unusedVariables false
set_option linter.unusedSimpArgs false

section
variable {P : Program} {I : WInv} {nt : Nat}
/-! ### lists of boxes -/
theorem lookB_app : ∀ {B R : Bxs} {k : Nat} {e : Ent}, lookB (B ++ R) k = some e → lookB B k = some e ∨ (lookB B k = none ∧ lookB R k = some e)
  | [], R, k, e, h => .inr ⟨rfl, h⟩
  | (q, v) :: B, R, k, e, h => by
    rw [List.cons_append, lookB_cons] at h
    rw [lookB_cons]
    by_cases hq : q = k
    · rw [if_pos hq] at h ⊢; exact .inl h
    · rw [if_neg hq] at h ⊢; exact lookB_app h
/-- the first m names lie outside [lo, hi) -/
def sepB : Nat → Nat → Nat → Bxs → Bool
  | 0, _, _, _ => true
  | _ + 1, _, _, [] => false
  | m + 1, lo, hi, (k, _) :: r => (Nat.blt k lo || Nat.ble hi k) && sepB m lo hi r
theorem sepB_look : ∀ {m lo hi : Nat} {B : Bxs} {k : Nat}, sepB m lo hi B = true → lo ≤ k → k < hi → lookB B k = lookB (B.drop m) k
  | 0, _, _, B, _, _, _, _ => rfl
  | m + 1, lo, hi, (q, v) :: r, k, h, h1, h2 => by
    simp only [sepB, Bool.and_eq_true, Bool.or_eq_true] at h
    have hq : q ≠ k := by
      rcases h.1 with h3 | h3
      · have := blt_lt h3; omega
      · have := Nat.le_of_ble_eq_true h3; omega
    rw [lookB_cons, if_neg hq, List.drop_succ_cons]
    exact sepB_look h.2 h1 h2
def rndTail (P : Program) (nt : Nat) (c : Code) (s : St) (fuel : Nat) (hs : List Ob) (tE : Env) (tB : Bxs) (m lo hi : Nat) : Option (Exit × List Ob × Env × Bxs × Bxs × Nat) :=
  match runT P nt fuel [.code c] s hs with
  | some (ex, s', os, []) => match restE s'.E tE, restB s'.B tB with
    | some E, some B => if sepB m lo hi s'.B then some (ex, os, E, B, s'.B.drop m, s'.nx) else none
    | _, _ => none
  | _ => none
theorem tail_weak {s' : St} {E tE : Env} {B R tB : Bxs} {m lo hi : Nat} (hE : restE s'.E tE = some E) (hB : restB s'.B tB = some B) (hs : sepB m lo hi s'.B = true) (hd : s'.B.drop m = R) (hR : ∀ k e, lookB R k = some e → lo ≤ k ∧ k < hi) : Leads I nt s' ⟨E, B ++ R, s'.nx⟩ := by
  rintro N0 w0 a w ⟨N, g, h1, h2⟩
  refine ⟨N, g, h1.weak (fun t v hv => restE_look hE t v hv) (fun k e he => ?_), h2⟩
  rcases lookB_app he with h | ⟨_, h⟩
  · exact restB_look hB k e h
  · obtain ⟨h3, h4⟩ := hR k e h
    rw [sepB_look hs h3 h4, hd]
    exact h
theorem rnd_tail {c : Code} {s : St} {ex : Exit} {E : Env} {B R : Bxs} {nx : Nat} (m lo hi fuel : Nat) (l : List (PO P I nt)) (hR : ∀ k e, lookB R k = some e → lo ≤ k ∧ k < hi) (h : rndTail P nt c s fuel (obs l) E B m lo hi = some (ex, obs l, E, B, R, nx)) : Rnd P I nt c s ex ⟨E, B ++ R, nx⟩ := by
  unfold rndTail at h
  split at h
  · rename_i ex' s' os hr
    split at h
    · rename_i E' B' hE hB
      split at h
      · rename_i hs
        simp only [Option.some.injEq, Prod.mk.injEq] at h
        obtain ⟨rfl, h2, rfl, rfl, h3, rfl⟩ := h
        intro N0 w0 a w hst
        have := runT_sound (R := fun e a' w' => e = ex' ∧ StSem I N0 w0 nt ⟨E', B' ++ R, s'.nx⟩ a' w') hr (by rw [h2]; exact obs_owed l) (fun a' w' hs' => ⟨rfl, tail_weak hE hB hs h3 hR N0 w0 a' w' hs'⟩) a w hst
        simp only [wpT] at this
        exact this
      · cases h
    · cases h
  · cases h

/-! ### up to a loop -/
def runS (P : Program) (nt : Nat) : Nat → List TI → St → List Ob → Option (List TI × St × List Ob × List Ob)
  | 0, _, _, _ => none
  | f + 1, k, s, h =>
    match k with
    | [] => some ([], s, [], h)
    | .blk _ :: k => runS P nt f k s h
    | .code c :: k =>
      match c with
      | .skip => runS P nt f k s h
      | .seq x y => runS P nt f (.code x :: .code y :: k) s h
      | .block id x => runS P nt f (.code x :: .blk id :: k) s h
      | .exit id => match dropTo id k with
        | some k' => runS P nt f k' s h
        | none => none
      | .cond c x y =>
        match opT (look s.E) c with
        | some (.cv (.one (.b (.lit (.bool true))))) => runS P nt f (.code x :: k) s h
        | some (.cv (.one (.b (.lit (.bool false))))) => runS P nt f (.code y :: k) s h
        | _ => none
      | .region _ ops draw =>
        match runOps P nt ops.toList ops.toList s.nx s.E s.B h with
        | some (rs, E, B, os, h') =>
          if !draw || (regOk ops.toList rs && P.follows .mixedOrders) then
            match runS P nt f k ⟨E, B, s.nx + ops.size⟩ h' with
            | some (k', s', os', r) => some (k', s', os ++ os', r)
            | none => none
          else none
        | none => none
      | .loop c => some (.code (.loop c) :: k, s, [], h)
      | _ => none
theorem runS_sound {N0 : Nat → Prop} {w0 : World} {R : Exit → Act → World → Prop} : ∀ {f : Nat} {k k' : List TI} {s : St} {h : List Ob} {s' : St} {os r : List Ob}, runS P nt f k s h = some (k', s', os, r) → Owed2 P I nt os → (∀ a w, StSem I N0 w0 nt s' a w → wpT P R k' .normal a w) → ∀ a w, StSem I N0 w0 nt s a w → wpT P R k .normal a w
  | 0, _, _, _, _, _, _, _, h, _, _, _, _, _ => by cases h
  | f + 1, k, k', s, h, s', os, r, hr, ho, hR, a, w, hs => by
    simp only [runS] at hr
    split at hr
    · simp only [Option.some.injEq, Prod.mk.injEq] at hr
      obtain ⟨rfl, rfl, rfl, rfl⟩ := hr
      exact hR a w hs
    · simp only [wpT]
      exact runS_sound hr ho hR a w hs
    · rename_i c k
      simp only [wpT]
      split at hr
      · exact wp_skip (runS_sound hr ho hR a w hs)
      · rename_i x y
        have := runS_sound hr ho hR a w hs
        simp only [wpT] at this
        refine wp_seq (wp_mono this ?_)
        intro e a' w' h'
        cases e <;> exact h'
      · rename_i id x
        have := runS_sound hr ho hR a w hs
        simp only [wpT] at this
        refine wp_block (wp_mono this ?_)
        intro e a' w' h'
        cases e <;> exact h'
      · rename_i id
        split at hr
        · rename_i k' hd
          exact wp_exit (wpT_drop hd a w (runS_sound hr ho hR a w hs))
        · cases hr
      · rename_i c x y
        have hev : ∀ b, opT (look s.E) c = some (.cv (.one (.b (.lit (.bool b))))) → a.eval c = .bool b := by
          intro b hb
          obtain ⟨N, g, h1, h2⟩ := hs
          cases c with
          | tmp t =>
            have : [a.tmps.getD t undef] = [.bool b] := h1.slots t _ hb
            injection this
          | const v =>
            have : [v] = [.bool b] := constTV_sem (N := N) (w := w) (g := g) hb
            injection this
          | global q => cases hb
          | func q => simp only [opT, tlit, Option.some.injEq] at hb; injection hb with hb; injection hb with hb; injection hb with hb; injection hb with hb
        split at hr
        · rename_i hb
          have := runS_sound hr ho hR a w hs
          simp only [wpT] at this
          exact wp_cond_true (hev true hb) this
        · rename_i hb
          have := runS_sound hr ho hR a w hs
          simp only [wpT] at this
          exact wp_cond_false (hev false hb) this
        · cases hr
      · rename_i id ops draw
        split at hr
        · rename_i rs E B os1 h1 hro
          split at hr
          · rename_i hd
            split at hr
            · rename_i k1 s1 os2 r2 hrec
              simp only [Option.some.injEq, Prod.mk.injEq] at hr
              obtain ⟨rfl, rfl, rfl, rfl⟩ := hr
              obtain ⟨ho1, ho2⟩ := ho.app
              obtain ⟨N, g, hs1, hs2⟩ := hs
              have hgo : ∀ N' g' a' w', Sat I N0 w0 nt N' g' (look E) (lookB B) a' w' → Fr g' (s.nx + ops.size) → wpT P R k .normal a' w' := fun N' g' a' w' q1 q2 => runS_sound hrec ho2 hR a' w' ⟨N', g', q1, q2⟩
              cases draw with
              | false => exact reg_seq hro ho1.plain hs1 hs2 hgo
              | true =>
                simp only [Bool.not_true, Bool.false_or, Bool.and_eq_true] at hd
                exact reg_any hro ho1.plain hd.1 hd.2 hs1 hs2 hgo
            · cases hr
          · cases hr
        · cases hr
      · simp only [Option.some.injEq, Prod.mk.injEq] at hr
        obtain ⟨rfl, rfl, rfl, rfl⟩ := hr
        have := hR a w hs
        simp only [wpT] at this
        exact this
      · cases hr
/-- from what is left to do in the state s to what is left to do in the state s' -/
def Ph (P : Program) (I : WInv) (nt : Nat) (k : List TI) (s : St) (k' : List TI) (s' : St) : Prop :=
  ∀ (Q : Exit → Act → World → Prop) (N0 : Nat → Prop) (w0 : World), (∀ a w, StSem I N0 w0 nt s' a w → wpT P Q k' .normal a w) → ∀ a w, StSem I N0 w0 nt s a w → wpT P Q k .normal a w
theorem Ph.pre {k k' : List TI} {r s s' : St} (hl : Leads I nt r s) (h : Ph P I nt k s k' s') : Ph P I nt k r k' s' := fun Q N0 w0 hq a w hs => h Q N0 w0 hq a w (hl N0 w0 a w hs)
theorem Ph.post {k k' : List TI} {s s' t : St} (h : Ph P I nt k s k' s') (hl : Leads I nt s' t) : Ph P I nt k s k' t := fun Q N0 w0 hq a w hs => h Q N0 w0 (fun a w hs => hq a w (hl N0 w0 a w hs)) a w hs
def phTail (P : Program) (nt : Nat) (k : List TI) (s : St) (fuel : Nat) (hs : List Ob) (tE : Env) (tB : Bxs) (m lo hi : Nat) : Option (List TI × List Ob × Env × Bxs × Bxs × Nat) :=
  match runS P nt fuel k s hs with
  | some (k', s', os, []) => match restE s'.E tE, restB s'.B tB with
    | some E, some B => if sepB m lo hi s'.B then some (k', os, E, B, s'.B.drop m, s'.nx) else none
    | _, _ => none
  | _ => none
theorem ph_tail {k k' : List TI} {s : St} {E : Env} {B R : Bxs} {nx : Nat} (m lo hi fuel : Nat) (l : List (PO P I nt)) (hR : ∀ k e, lookB R k = some e → lo ≤ k ∧ k < hi) (h : phTail P nt k s fuel (obs l) E B m lo hi = some (k', obs l, E, B, R, nx)) : Ph P I nt k s k' ⟨E, B ++ R, nx⟩ := by
  unfold phTail at h
  split at h
  · rename_i k1 s' os hr
    split at h
    · rename_i E' B' hE hB
      split at h
      · rename_i hs
        simp only [Option.some.injEq, Prod.mk.injEq] at h
        obtain ⟨rfl, h2, rfl, rfl, h3, rfl⟩ := h
        intro Q N0 w0 hq a w hst
        exact runS_sound hr (by rw [h2]; exact obs_owed l) (fun a' w' hs' => hq a' w' (tail_weak hE hB hs h3 hR N0 w0 a' w' hs')) a w hst
      · cases h
    · cases h
  · cases h
/-- a round of a loop with a loop inside -/
theorem rnd_inner {body inner : Code} {k1 k2 : List TI} {s s1 t1 t : St} {id : Nat} (h1 : Ph P I nt [.code body] s (.code (.loop inner) :: k1) s1) (lo : LoopTr P I nt inner s1 (.exit id) t1) (hd : dropTo id k1 = some k2) (h2 : Ph P I nt k2 t1 [] t) : Rnd P I nt body s .normal t := by
  intro N0 w0 a w hs
  have := h1 (fun e a' w' => e = .normal ∧ StSem I N0 w0 nt t a' w') N0 w0 (fun a w hs => by
    simp only [wpT]
    refine wp_mono (lo N0 w0 a w hs) ?_
    rintro e a' w' ⟨rfl, h3⟩
    exact wpT_drop hd a' w' (h2 _ N0 w0 (fun a w hs => by show Exit.normal = .normal ∧ _; exact ⟨rfl, hs⟩) a' w' h3)) a w hs
  simp only [wpT] at this
  exact this
def codeR : Code → Nat → Code
  | c, 0 => c
  | .seq _ y, n + 1 => codeR y n
  | c, _ + 1 => c
theorem Rnd.pre {c : Code} {r s : St} {ex : Exit} {t : St} (hl : Leads I nt r s) (h : Rnd P I nt c s ex t) : Rnd P I nt c r ex t := fun N0 w0 a w hs => h N0 w0 a w (hl N0 w0 a w hs)

/-! ### renaming of a box that another one points to -/
theorem perm_leads {E : Env} {B B' : Bxs} {nx : Nat} (h : ∀ k e, lookB B' k = some e → lookB B k = some e) : Leads I nt ⟨E, B, nx⟩ ⟨E, B', nx⟩ := by
  rintro N0 w0 a w ⟨N, g, h1, h2⟩
  exact ⟨N, g, h1.weak (fun t v hv => hv) h, h2⟩
theorem ren_box {E : Env} {B : Bxs} {k k' j nx : Nat} {e f f' : Ent} (hE : avE k E = true) (hB : ∀ i u, lookB B i = some u → i ≠ k ∧ u.its.all (It.av k) = true) (he : e.its.all (It.av k) = true) (hk : k < nx) (hk' : lookB B k' = none) (hj : j ≠ k) (hj' : j ≠ k')
    (hf : ∀ N w g l, semL N w g f.its l → semL N w (renG g k k') f'.its l) (hT : f'.T = f.T) (hs : f'.sl = f.sl) : Leads I nt ⟨E, (k', some e) :: (j, some f) :: B, nx⟩ ⟨E, (k, some e) :: (j, some f') :: B, nx⟩ := by
  rintro N0 w0 a w ⟨N, g, h1, h2⟩
  have nk : ∀ {x : Nat}, x ≠ k → renG g k k' x = g x := by intro x hx; unfold renG; rw [if_neg hx]
  have oldk : lookB ((k', some e) :: (j, some f) :: B) k' = some e := by rw [lookB_cons, if_pos rfl]
  have oldj : lookB ((k', some e) :: (j, some f) :: B) j = some f := by rw [lookB_cons, if_neg (Ne.symm hj'), lookB_cons, if_pos rfl]
  have old : ∀ i u, i ≠ j → lookB B i = some u → lookB ((k', some e) :: (j, some f) :: B) i = some u := by
    intro i u hij hi
    have : k' ≠ i := by intro h; rw [h, hi] at hk'; cases hk'
    rw [lookB_cons, if_neg this, lookB_cons, if_neg (Ne.symm hij)]; exact hi
  have cases3 : ∀ i u, lookB ((k, some e) :: (j, some f') :: B) i = some u → (i = k ∧ u = e) ∨ (i ≠ k ∧ i = j ∧ u = f') ∨ (i ≠ k ∧ i ≠ j ∧ lookB B i = some u) := by
    intro i u hi
    rw [lookB_cons] at hi
    by_cases h : k = i
    · rw [if_pos h] at hi; injection hi with hi; exact .inl ⟨h.symm, hi.symm⟩
    · rw [if_neg h, lookB_cons] at hi
      by_cases h' : j = i
      · rw [if_pos h'] at hi; injection hi with hi; exact .inr (.inl ⟨Ne.symm h, h'.symm, hi.symm⟩)
      · rw [if_neg h'] at hi; exact .inr (.inr ⟨Ne.symm h, Ne.symm h', hi⟩)
  refine ⟨N, renG g k k', { h1 with slots := ?_, boxes := ?_, inj := ?_ }, ?_⟩
  · intro q v hv
    exact TV.av_sem (avE_look hE hv) (h1.slots q v hv)
  · intro i u hi
    rcases cases3 i u hi with ⟨rfl, rfl⟩ | ⟨hne, rfl, rfl⟩ | ⟨hne, hnj, hb⟩
    · obtain ⟨gv, r1, r2⟩ := h1.boxes k' u oldk
      refine ⟨gv, by rw [renG_same]; exact r1, ?_⟩
      rcases r2 with ⟨s, n, q1, q2, q3, q4⟩ | ⟨b, cs, l, q1, q2, q3, q4⟩
      · exact .inl ⟨s, n, q1, q2, q3, semL_av he q4⟩
      · exact .inr ⟨b, cs, l, q1, q2, semL_av he q3, q4⟩
    · obtain ⟨gv, r1, r2⟩ := h1.boxes i f oldj
      refine ⟨gv, by rw [nk hne]; exact r1, ?_⟩
      rw [hT, hs]
      rcases r2 with ⟨s, n, q1, q2, q3, q4⟩ | ⟨b, cs, l, q1, q2, q3, q4⟩
      · exact .inl ⟨s, n, q1, q2, q3, hf _ _ _ _ q4⟩
      · exact .inr ⟨b, cs, l, q1, q2, hf _ _ _ _ q3, q4⟩
    · exact (h1.boxes i u (old i u hnj hb)).ren (nk hne) (hB i u hb).2
  · have key : ∀ i u b, lookB ((k, some e) :: (j, some f') :: B) i = some u → blkOf (renG g k k') i = some b → ∃ i' u', lookB ((k', some e) :: (j, some f) :: B) i' = some u' ∧ blkOf g i' = some b ∧ (i = k ∧ i' = k' ∨ i ≠ k ∧ i' = i ∧ i ≠ k') := by
      intro i u b hi hb
      rcases cases3 i u hi with ⟨rfl, rfl⟩ | ⟨hne, rfl, rfl⟩ | ⟨hne, hnj, hq⟩
      · exact ⟨k', _, oldk, by unfold blkOf at hb ⊢; rw [renG_same] at hb; exact hb, .inl ⟨rfl, rfl⟩⟩
      · exact ⟨i, _, oldj, by unfold blkOf at hb ⊢; rw [nk hne] at hb; exact hb, .inr ⟨hne, rfl, hj'⟩⟩
      · exact ⟨i, _, old i u hnj hq, by unfold blkOf at hb ⊢; rw [nk hne] at hb; exact hb, .inr ⟨hne, rfl, by intro h; rw [h, hk'] at hq; cases hq⟩⟩
    intro x y u v b q1 q2 q3 q4
    obtain ⟨x', u', r1, r2, r3⟩ := key x u b q1 q3
    obtain ⟨y', v', s1, s2, s3⟩ := key y v b q2 q4
    have := h1.inj x' y' u' v' b r1 s1 r2 s2
    rcases r3 with ⟨a1, a2⟩ | ⟨a1, a2, a3⟩ <;> rcases s3 with ⟨b1, b2⟩ | ⟨b1, b2, b3⟩
    · rw [a1, b1]
    · exfalso; exact b3 (by rw [← b2, ← this, a2])
    · exfalso; exact a3 (by rw [← a2, this, b2])
    · rw [← a2, ← b2]; exact this
  · intro x hx
    show renG g k k' x = none
    have hx : nx ≤ x := hx
    rw [nk (by omega)]
    exact h2 x hx

/-! ### the family -/
def entR (T : TypeId) (rows : List (List It0)) : Ent := ⟨T, some (5, rows.length), flatR rows⟩
def famB (T : TypeId) (n : Nat) (f : Nat → Option (List (List It0))) : Bxs := (List.range n).map fun i => (i + 1000, (f i).map (entR T))
def outB (n : Nat) (f : Nat → Nat) : List It := (List.range n).map fun i => It.sl (f i)
def mst (E : Env) (T U n : Nat) (f : Nat → List (List It0)) : St := ⟨E, (51, some ⟨U, some (1, n), outB n (· + 1000)⟩) :: famB T n (fun i => some (f i)), 6000⟩
theorem fam_look {T n : Nat} {f : Nat → Option (List (List It0))} {k : Nat} : lookB (famB T n f) k = if 1000 ≤ k ∧ k < n + 1000 then (f (k - 1000)).map (entR T) else none := by
  have app : ∀ (B : Bxs) (q : Nat) (v : Option Ent), (∀ p ∈ B, p.1 ≠ q) → ∀ k, lookB (B ++ [(q, v)]) k = if q = k then v else lookB B k := by
    intro B q v
    induction B with
    | nil => intro _ k; rw [List.nil_append, lookB_cons]
    | cons p B ih =>
      intro h k
      obtain ⟨i, u⟩ := p
      rw [List.cons_append, lookB_cons, lookB_cons, ih (fun x hx => h x (by simp [hx])) k]
      have := h (i, u) (by simp)
      by_cases h1 : i = k
      · rw [if_pos h1, if_pos h1, if_neg (by intro h2; exact this (h1.trans h2.symm))]
      · rw [if_neg h1, if_neg h1]
  induction n with
  | zero => rw [if_neg (by omega)]; rfl
  | succ n ih =>
    unfold famB at ih ⊢
    rw [List.range_succ, List.map_append, List.map_singleton, app _ _ _ (by
      intro p hp
      obtain ⟨i, hi, rfl⟩ := List.mem_map.1 hp
      have := List.mem_range.1 hi
      show i + 1000 ≠ n + 1000
      omega), ih]
    by_cases h : n + 1000 = k
    · rw [if_pos h, if_pos (by omega), show k - 1000 = n by omega]
    · rw [if_neg h]
      by_cases h2 : 1000 ≤ k ∧ k < n + 1000
      · rw [if_pos h2, if_pos (by omega)]
      · rw [if_neg h2, if_neg (by omega)]
theorem fam_in {T n : Nat} {f : Nat → Option (List (List It0))} (hn : n ≤ 4096) : ∀ k e, lookB (famB T n f) k = some e → 1000 ≤ k ∧ k < 6000 := by
  intro k e h
  rw [fam_look] at h
  split at h
  · rename_i h1; omega
  · cases h
theorem fam_av {T n : Nat} {f : Nat → Option (List (List It0))} {i : Nat} {u : Ent} (h : lookB (famB T n f) i = some u) (k : Nat) : u.its.all (It.av k) = true := by
  rw [fam_look] at h
  split at h
  · cases hf : f (i - 1000) with
    | none => rw [hf] at h; cases h
    | some rows =>
      rw [hf] at h
      injection h with h
      subst h
      exact mapB_av k _
  · cases h
theorem semL_map {N : Nat → Prop} {w : World} {g g' : Gh} {p q : Nat → It} : ∀ {is : List Nat} {l : List Value}, (∀ i ∈ is, ∀ l, (p i).sem N w g l → (q i).sem N w g' l) → semL N w g (is.map p) l → semL N w g' (is.map q) l
  | [], _, _, h => h
  | i :: is, _, hp, ⟨l1, l2, e, h1, h2⟩ => ⟨l1, l2, e, hp i (by simp) l1 h1, semL_map (fun x hx => hp x (by simp [hx])) h2⟩
theorem sl_ren {N : Nat → Prop} {w : World} {g g' : Gh} {a b : Nat} {l : List Value} (hg : g' b = g a) (h : (It.sl a).sem N w g l) : (It.sl b).sem N w g' l := by
  obtain ⟨A, n, c, h1, h2⟩ := h
  exact ⟨A, n, c, hg.trans h1, h2⟩
theorem ones_cut : ∀ {l : List It} {x : Nat}, (∀ y ∈ l, y.n = 1) → x ≤ l.length → cutAt l x = some (l.take x, l.drop x)
  | l, 0, _, _ => by cases l <;> rfl
  | [], x + 1, _, h => by simp at h
  | y :: l, x + 1, h1, h2 => by
    have hy := h1 y (by simp)
    simp only [cutAt]
    rw [if_pos (by omega), show x + 1 - y.n = x by omega, ones_cut (fun z hz => h1 z (by simp [hz])) (by simpa using h2)]
    rfl
theorem cut_one (y : It) (l : List It) (h : y.n = 1) : cutAt (y :: l) 1 = some ([y], l) := by
  have c0 : ∀ l : List It, cutAt l 0 = some ([], l) := fun l => by cases l <;> rfl
  show (if y.n ≤ 0 + 1 then (cutAt l (0 + 1 - y.n)).map (fun p => (y :: p.1, p.2)) else none) = _
  rw [if_pos (by omega), show 0 + 1 - y.n = 0 by omega, c0]
  rfl
theorem out_one {n : Nat} {f : Nat → Nat} : ∀ y ∈ outB n f, y.n = 1 := by intro y hy; obtain ⟨i, _, rfl⟩ := List.mem_map.1 hy; rfl
abbrev opn (x : Nat) (i : Nat) : Nat := if i = x then 7 else i + 1000
theorem out_len {n : Nat} {f : Nat → Nat} : (outB n f).length = n := by simp [outB]
theorem out_get {n x : Nat} (hx : x < n) : (outB n (opn x))[x]? = some (.sl 7) := by
  unfold outB
  rw [range_some hx]
  simp [opn]
theorem out_sub {n x : Nat} (hx : x < n) : subAt (outB n (opn x)) (x * 1) 1 = some [.sl 7] := by
  unfold subAt
  rw [Nat.mul_one, ones_cut out_one (by rw [out_len]; omega)]
  have e : (outB n (opn x)).drop x = .sl 7 :: (outB n (opn x)).drop (x + 1) := by
    have hg := out_get hx
    have hl : x < (outB n (opn x)).length := by rw [out_len]; exact hx
    rw [List.drop_eq_getElem_cons hl]
    congr 1
    rw [List.getElem?_eq_getElem hl] at hg
    injection hg
  simp only [e]
  rw [cut_one _ _ rfl]
  rfl
theorem out_upd {n x : Nat} {nm : Nat} (hx : x < n) : updAt (outB n (opn x)) (x * 1) [.sl nm] = some ((outB n (opn x)).set x (.sl nm)) := by
  have hl : x < (outB n (opn x)).length := by rw [out_len]; exact hx
  unfold updAt
  rw [Nat.mul_one, ones_cut out_one (Nat.le_of_lt hl)]
  have e : (outB n (opn x)).drop x = (outB n (opn x))[x] :: (outB n (opn x)).drop (x + 1) := List.drop_eq_getElem_cons hl
  have h1 : ((outB n (opn x))[x]).n = 1 := out_one _ (List.getElem_mem hl)
  have hc : cutAt ((outB n (opn x)).drop x) (widthL [It.sl nm]) = some ([(outB n (opn x))[x]], (outB n (opn x)).drop (x + 1)) := by
    rw [show widthL [It.sl nm] = 1 from rfl, e, cut_one _ _ h1]
  simp only [hc, Option.map_some]
  rw [List.set_eq_take_append_cons_drop, if_pos hl]
  simp
/-- the state with row x opened under the name 7 -/
def ost (E : Env) (T U n : Nat) (f : Nat → List (List It0)) (x : Nat) : St := ⟨E, [(7, some (entR T (f x))), (51, some ⟨U, some (1, n), outB n (opn x)⟩)] ++ famB T n (fun i => if i = x then none else some (f i)), 6000⟩
theorem open_leads {E : Env} {T U n x : Nat} {f : Nat → List (List It0)} (hx : x < n) (hE : avE 7 E = true) : Leads I nt (mst E T U n f) (ost E T U n f x) := by
  have h1 : Leads I nt (mst E T U n f) ⟨E, (x + 1000, some (entR T (f x))) :: (51, some ⟨U, some (1, n), outB n (· + 1000)⟩) :: famB T n (fun i => if i = x then none else some (f i)), 6000⟩ := by
    refine perm_leads fun k e he => ?_
    rw [lookB_cons] at he
    rw [lookB_cons]
    by_cases hk : x + 1000 = k
    · rw [if_pos hk] at he
      rw [if_neg (by omega), fam_look, if_pos (by omega), show k - 1000 = x by omega]
      exact he
    · rw [if_neg hk, lookB_cons] at he
      by_cases h51 : 51 = k
      · rw [if_pos h51] at he ⊢; exact he
      · rw [if_neg h51] at he ⊢
        rw [fam_look] at he ⊢
        split at he
        · rename_i hr
          rw [if_pos hr]
          rw [if_neg (by omega)] at he
          exact he
        · cases he
  refine h1.trans (ren_box hE (fun i u hi => ⟨?_, fam_av hi 7⟩) (mapB_av 7 _) (by omega) ?_ (by omega) (by omega) ?_ rfl rfl)
  · rw [fam_look] at hi
    split at hi
    · omega
    · cases hi
  · rw [fam_look, if_pos (by omega), show x + 1000 - 1000 = x by omega, if_pos rfl]; rfl
  · intro N w g l hl
    refine semL_map (fun i hi l hl => ?_) hl
    by_cases h : i = x
    · subst h
      refine sl_ren ?_ hl
      unfold opn
      rw [if_pos rfl, renG_same]
    · refine sl_ren ?_ hl
      unfold opn renG
      rw [if_neg h, if_neg (by omega)]
theorem ltB_fam {T : Nat} {f : Nat → Option (List (List It0))} {m : Nat} : ∀ {is : List Nat}, (∀ i ∈ is, i + 1000 < m) → ltB m (is.map fun i => (i + 1000, (f i).map (entR T))) = true
  | [], _ => rfl
  | i :: is, h => by
    have ih := ltB_fam (f := f) (T := T) (is := is) fun x hx => h x (by simp [hx])
    rw [List.map_cons]
    cases hf : f i with
    | none => simp only [Option.map_none, ltB]; exact ih
    | some rows =>
      have h1 : Nat.blt (i + 1000) m = true := by rw [Nat.blt_eq]; exact h i (by simp)
      simp only [Option.map_some, ltB, h1, ih, entR, flatR, mapB_lt, Bool.and_self]
theorem ltB_out {m : Nat} {f : Nat → Nat} : ∀ {is : List Nat}, (∀ i ∈ is, f i < m) → (is.map fun i => It.sl (f i)).all (It.lt m) = true := by
  intro is h
  rw [List.all_eq_true]
  intro y hy
  obtain ⟨i, hi, rfl⟩ := List.mem_map.1 hy
  show Nat.blt (f i) m = true
  rw [Nat.blt_eq]
  exact h i hi
/-- the row is closed again, one longer -/
theorem close_leads {E : Env} {T U n x nm nx : Nat} {f : Nat → List (List It0)} {row : List It0} (hx : x < n) (hn : n ≤ 4096) (hnm : 6000 ≤ nm) (hnx : nm < nx) (hE : avE (x + 1000) E = true) (hlt : ltE 6000 E = true) :
    Leads I nt ⟨E, [(nm, some ⟨T, some (5, (f x).length + 1), flatR (f x) ++ row.map It.b⟩), (51, some ⟨U, some (1, n), (outB n (opn x)).set x (.sl nm)⟩)] ++ famB T n (fun i => if i = x then none else some (f i)), nx⟩ (mst E T U n (fun i => if i = x then f x ++ [row] else f i)) := by
  have e1 : (⟨T, some (5, (f x).length + 1), flatR (f x) ++ row.map It.b⟩ : Ent) = entR T (f x ++ [row]) := by
    unfold entR
    rw [flatR_snoc, List.length_append, List.length_singleton]
  have e2 : (outB n (opn x)).set x (.sl nm) = outB n (fun i => if i = x then nm else i + 1000) := by
    have := set_range (f := fun i => It.sl (opn x i)) (f' := fun i => It.sl (if i = x then nm else i + 1000)) (n := n) (i := x) (fun y hy _ => by simp [opn, hy])
    simp only [if_true] at this
    exact this
  rw [e1, e2]
  show Leads I nt ⟨E, (nm, some (entR T (f x ++ [row]))) :: (51, some ⟨U, some (1, n), outB n (fun i => if i = x then nm else i + 1000)⟩) :: famB T n (fun i => if i = x then none else some (f i)), nx⟩ _
  refine Leads.trans (ren_box (k := x + 1000) (k' := nm) (j := 51) (f' := ⟨U, some (1, n), outB n (· + 1000)⟩) hE (fun i u hi => ⟨?_, fam_av hi _⟩) (mapB_av _ _) (by omega) ?_ (by omega) (by omega) ?_ rfl rfl) (Leads.trans (perm_leads (B' := (51, some ⟨U, some (1, n), outB n (· + 1000)⟩) :: famB T n (fun i => some (if i = x then f x ++ [row] else f i))) ?_) (cut_leads hlt ?_))
  · rw [fam_look] at hi
    split at hi
    · intro h
      rw [h, show x + 1000 - 1000 = x by omega, if_pos rfl] at hi
      cases hi
    · cases hi
  · rw [fam_look, if_neg (by omega)]
  · intro N w g l hl
    refine semL_map (fun i hi l hl => ?_) hl
    by_cases h : i = x
    · subst h
      dsimp only at hl
      rw [if_pos rfl] at hl
      exact sl_ren renG_same hl
    · dsimp only at hl
      rw [if_neg h] at hl
      refine sl_ren ?_ hl
      unfold renG
      rw [if_neg (show ¬ i + 1000 = x + 1000 by omega)]
  · intro k e he
    rw [lookB_cons] at he
    rw [lookB_cons]
    by_cases h51 : 51 = k
    · rw [if_pos h51] at he
      rw [if_neg (by omega), lookB_cons, if_pos h51]; exact he
    · rw [if_neg h51, fam_look] at he
      split at he
      · rename_i hr
        by_cases hk : x + 1000 = k
        · rw [if_pos hk]
          rw [show k - 1000 = x by omega, if_pos rfl] at he
          exact he
        · rw [if_neg hk, lookB_cons, if_neg h51, fam_look, if_pos hr, if_neg (by omega)]
          rw [if_neg (by omega)] at he
          exact he
      · cases he
  · simp only [ltB, Bool.and_eq_true]
    refine ⟨⟨rfl, ltB_out (f := (· + 1000)) fun i hi => ?_⟩, ltB_fam fun i hi => ?_⟩
    · have := List.mem_range.1 hi; show i + 1000 < 6000; omega
    · have := List.mem_range.1 hi; omega
theorem mst_cut {E : Env} {T U n nx : Nat} {f : Nat → List (List It0)} (hn : n ≤ 4096) (hlt : ltE 6000 E = true) : Leads I nt ⟨E, [(51, some ⟨U, some (1, n), outB n (· + 1000)⟩)] ++ famB T n (fun i => some (f i)), nx⟩ (mst E T U n f) := by
  refine cut_leads hlt ?_
  show (Nat.blt 51 6000 && (outB n (· + 1000)).all (It.lt 6000) && ltB 6000 (famB T n (fun i => some (f i)))) = true
  simp only [Bool.and_eq_true]
  refine ⟨⟨rfl, ltB_out (f := (· + 1000)) fun i hi => ?_⟩, ltB_fam fun i hi => ?_⟩
  · have := List.mem_range.1 hi; show i + 1000 < 6000; omega
  · have := List.mem_range.1 hi; omega
/-- nil rows become empty slices of one's own -/
theorem fam_init {E : Env} {T U n nx : Nat} (hn : n ≤ 4096) (hnx : nx ≤ 1000) : Leads I nt ⟨E, [(51, some ⟨U, some (1, n), rep n [.b (.lit (.slice none 0 0))]⟩)], nx⟩ (mst E T U n (fun _ => [])) := by
  unfold mst
  rintro N0 w0 a w ⟨N, g, h1, h2⟩
  let g' : Gh := fun k => if 1000 ≤ k ∧ k < n + 1000 then some (.sl none 0 0) else g k
  have hx : GExt g g' := by
    intro k b hb
    show (if 1000 ≤ k ∧ k < n + 1000 then some (GV.sl none 0 0) else g k) = some b
    rw [if_neg (by intro hk; have := h2 k (show nx ≤ k by omega); rw [this] at hb; cases hb)]
    exact hb
  have hin : ∀ i, i < n → g' (i + 1000) = some (.sl none 0 0) := fun i hi => by show (if _ then _ else _) = _; rw [if_pos (by omega)]
  have hb0 := h1.boxes 51 _ (by rw [lookB_cons, if_pos rfl])
  have hcells : semL N w g' (outB n (· + 1000)) (List.replicate n (Value.slice none 0 0)) := by
    have : ∀ (is : List Nat), (∀ i ∈ is, i < n) → semL N w g' (is.map fun i => It.sl (i + 1000)) (List.replicate is.length (Value.slice none 0 0)) := by
      intro is
      induction is with
      | nil => intro _; exact rfl
      | cons i is ih => intro h; exact ⟨[_], _, by simp [List.replicate_succ], ⟨none, 0, 0, hin i (h i (by simp)), rfl⟩, ih fun x hx => h x (by simp [hx])⟩
    have := this (List.range n) fun i hi => List.mem_range.1 hi
    rw [List.length_range] at this
    exact this
  have hrep : ∀ (n : Nat) l, semL N w g (rep n [.b (.lit (.slice none 0 0))]) l → l = List.replicate n (Value.slice none 0 0) := by
    intro n
    induction n with
    | zero => intro l h; exact h
    | succ n ih =>
      intro l h
      obtain ⟨l1, l2, e, q1, q2⟩ := semL_split h
      have := ih l1 q1
      obtain ⟨m1, m2, e2, q3, q4⟩ := q2
      have q4 : m2 = [] := q4
      have q3 : m1 = [_] := q3
      rw [e, this, e2, q3, q4, List.replicate_succ']
      simp
  refine ⟨N, g', { h1 with slots := ?_, boxes := ?_, inj := ?_ }, ?_⟩
  · intro q v hv
    exact TV.step (h1.slots q v hv) (WStep.refl _ _) (fun _ h => h) hx
  · intro k e he
    rw [lookB_cons] at he
    by_cases hk : 51 = k
    · subst hk
      rw [if_pos rfl] at he
      injection he with he
      subst he
      obtain ⟨gv, r1, r2⟩ := hb0
      refine ⟨gv, hx _ _ r1, ?_⟩
      rcases r2 with ⟨s, m, q1, q2, q3, q4⟩ | ⟨b, cs, l, q1, q2, q3, q4⟩
      · have := hrep n [] q4
        refine .inl ⟨s, m, q1, q2, q3, ?_⟩
        rw [this]; exact hcells
      · refine .inr ⟨b, cs, l, q1, q2, ?_, q4⟩
        rw [hrep n l q3]; exact hcells
    · rw [if_neg hk, fam_look] at he
      split at he
      · rename_i hr
        injection he with he
        subst he
        exact ⟨.sl none 0 0, by show (if _ then _ else _) = _; rw [if_pos hr], .inl ⟨5, 0, rfl, rfl, rfl, rfl⟩⟩
      · cases he
  · intro i j e e' b q1 q2 q3 q4
    have key : ∀ i e, lookB ((51, some (⟨U, some (1, n), outB n (· + 1000)⟩ : Ent)) :: famB T n (fun _ => some [])) i = some e → blkOf g' i = some b → i = 51 := by
      intro i e hi hb
      rw [lookB_cons] at hi
      by_cases hk : 51 = i
      · exact hk.symm
      · rw [if_neg hk, fam_look] at hi
        split at hi
        · rename_i hr
          unfold blkOf at hb
          rw [show g' i = some (.sl none 0 0) from by show (if _ then _ else _) = _; rw [if_pos hr]] at hb
          cases hb
        · cases hi
    rw [key i e q1 q3, key j e' q2 q4]
  · intro k hk
    have hk : 6000 ≤ k := hk
    show (if _ then _ else _) = _
    rw [if_neg (by omega)]
    exact h2 k (show nx ≤ k by omega)
/-- the slice of slices is given out of hand: all of it stays -/
theorem fam_freeze {t : Nat} {E : Env} {T U n : Nat} {f : Nat → List (List It0)} (hn : n ≤ 4096) (hw : ∀ i, i < n → ∀ r ∈ f i, widthO r = 5) :
    Leads I nt (mst ((t, .cv (.one (.sl 51))) :: E) T U n f) ⟨(t, tit (slI 1 ((List.range n).map fun i => [.it (slI 5 (f i))]))) :: E, [], 6000⟩ := by
  unfold mst
  rintro N0 w0 a w ⟨N, g, h1, h2⟩
  have hb0 := h1.boxes 51 ⟨U, some (1, n), outB n (· + 1000)⟩ (by rw [lookB_cons, if_pos rfl])
  have hbi : ∀ i, i < n → BoxSem N w g w0.heap.size (i + 1000) (entR T (f i)) := fun i hi => h1.boxes (i + 1000) _ (by
    rw [lookB_cons, if_neg (by omega), fam_look, if_pos (by omega), show i + 1000 - 1000 = i by omega]; rfl)
  let N' : Nat → Prop := fun b => N b ∨ blkOf g 51 = some b ∨ ∃ i, i < n ∧ blkOf g (i + 1000) = some b
  have hN : ∀ b, N b → N' b := fun b hb => .inl hb
  have hown : ∀ b, N' b → N b ∨ (w0.heap.size ≤ b ∧ b < w.heap.size) := by
    intro b hb
    rcases hb with hb | hb | ⟨i, hi, hb⟩
    · exact .inl hb
    · obtain ⟨_, _, _, _, _, _, h, _⟩ := hb0.at hb
      exact .inr ⟨h, hb0.lt hb⟩
    · obtain ⟨_, _, _, _, _, _, h, _⟩ := (hbi i hi).at hb
      exact .inr ⟨h, (hbi i hi).lt hb⟩
  have hrow : ∀ i, i < n → ∀ l, (It.sl (i + 1000)).sem N w g l → (slI 5 (f i)).T N' w l := by
    intro i hi l ⟨A, m, c, e1, e2⟩
    obtain ⟨A', c', xs, g1, g2, g3, g4⟩ := (hbi i hi).own rfl
    rw [e1] at g1
    injection g1 with g1
    injection g1 with q1 q2 q3
    subst q1 q2 q3
    have hkb : blkOf g (i + 1000) = A.map (·.block) := by unfold blkOf; rw [e1]; cases A <;> rfl
    rcases g2 with ⟨rfl, h0, rfl, rfl⟩ | ⟨b, cs, rfl, r2, r3, r4, r5, r6, r7⟩
    · exact ⟨none, 0, e2, by omega, by simp [maxLen], fun hr => absurd (List.eq_nil_of_length_eq_zero h0) hr⟩
    · refine ⟨_, c, e2, r3, r4, fun _ => ⟨b, 0, rfl, fun j r hj => ?_⟩⟩
      obtain ⟨k1, k2⟩ := rows_at (hw i hi) (semL_semL0 g3)
      have k3 := k2 j r hj
      have hlen := semL0_len k3
      rw [hw i hi r (List.mem_of_getElem? hj)] at hlen
      refine ⟨cs, T, (0, 0), _, .inr (.inr ⟨i, hi, hkb⟩), r2, ?_, semL0_step (WStep.refl _ _) hN k3⟩
      rw [Nat.zero_add, hlen, ← r6]
      have hj' : j < (f i).length := (List.getElem?_eq_some_iff.1 hj).1
      have hm : j * 5 + 5 ≤ (f i).length * 5 := by omega
      rw [List.drop_take, List.take_take, Nat.min_eq_left (by omega)]
  refine ⟨N', g, ⟨?_, fun k e he => (by cases he), fun i j e e' b q1 => (by cases q1), ?_, ?_, fun b hb => .inl (h1.sup b hb), h1.below, h1.tmps, h1.defers, I.step (WStep.refl _ _) hN h1.inv⟩, h2⟩
  · intro q v hv
    rw [look_cons] at hv
    by_cases hq : t = q
    · subst hq
      rw [if_pos rfl] at hv
      injection hv with hv
      subst hv
      obtain ⟨A, m, c, e1, e2⟩ := h1.slots t _ (by rw [look_cons, if_pos rfl])
      injection e2 with e2
      rw [e2]
      obtain ⟨A', c', xs, g1, g2, g3, g4⟩ := hb0.own rfl
      rw [e1] at g1
      injection g1 with g1
      injection g1 with q1 q2 q3
      subst q1 q2 q3
      have hkb : blkOf g 51 = A.map (·.block) := by unfold blkOf; rw [e1]; cases A <;> rfl
      have hrows : semL0 N' w (((List.range m).map fun i => [It0.it (slI 5 (f i))]).flatten) xs := by
        have : ∀ (is : List Nat) l, (∀ i ∈ is, i < m) → semL N w g (is.map fun i => It.sl (i + 1000)) l → semL0 N' w ((is.map fun i => [It0.it (slI 5 (f i))]).flatten) l := by
          intro is
          induction is with
          | nil => intro l _ h; exact h
          | cons i is ih =>
            rintro l hi ⟨l1, l2, e, h3, h4⟩
            exact ⟨l1, l2, e, hrow i (hi i (by simp)) l1 h3, ih l2 (fun x hx => hi x (by simp [hx])) h4⟩
        exact this (List.range m) xs (fun i hi => List.mem_range.1 hi) g3
      have hlen : ((List.range m).map fun i => [It0.it (slI 5 (f i))]).length = m := by simp
      rcases g2 with ⟨rfl, h0, rfl, rfl⟩ | ⟨b, cs, rfl, r2, r3, r4, r5, r6, r7⟩
      · exact ⟨none, 0, by rw [hlen], by rw [hlen]; omega, by simp [maxLen], fun hr => by subst h0; exact absurd rfl hr⟩
      · refine ⟨_, c, by rw [hlen], by rw [hlen]; exact r3, r4, fun _ => ⟨b, 0, rfl, fun j r hj => ?_⟩⟩
        have hwid : ∀ r ∈ (List.range m).map (fun i => [It0.it (slI 5 (f i))]), widthO r = 1 := by intro r hr; obtain ⟨i, _, rfl⟩ := List.mem_map.1 hr; rfl
        obtain ⟨k1, k2⟩ := rows_at hwid hrows
        have k3 := k2 j r hj
        have hlen2 := semL0_len k3
        rw [hwid r (List.mem_of_getElem? hj)] at hlen2
        refine ⟨cs, U, (0, 0), _, .inr (.inl hkb), r2, ?_, k3⟩
        rw [Nat.zero_add, hlen2, ← r6]
        have hj' : j < m := by have := (List.getElem?_eq_some_iff.1 hj).1; rwa [hlen] at this
        rw [List.drop_take, List.take_take, Nat.min_eq_left (by omega)]
    · rw [if_neg hq] at hv
      exact TV.step (h1.slots q v (by rw [look_cons, if_neg hq]; exact hv)) (WStep.refl _ _) hN (GExt.refl _)
  · intro b hb
    rcases hown b hb with h | h
    · exact h1.low b h
    · exact h.2
  · intro b hb
    rcases hown b hb with h | h
    · exact h1.sub b h
    · exact .inr h
end
end Go.Proofs.Ytpampkliahopdaa

/- Matrices: Transpose of the program and of the reference. -/
namespace Go.Proofs.Ytpampkliahopdaa
open Go Go.RowKit
set_option linter.unusedVariables false
set_option linter.unusedSimpArgs false

abbrev rowW (c : Bool) (k : Nat) (v : Ve) : List It0 := [.it (vecI c k v)]
abbrev matI (c : Bool) (k : Nat) (L : List Ve) : Item := slI 1 (L.map (rowW c k))
def lvat (L : List Ve) (i : Nat) : Ve := L.getD i []
theorem lvat_get {L : List Ve} {i : Nat} (h : i < L.length) : lvat L i = L[i] := by unfold lvat; rw [List.getD_eq_getElem?_getD, List.getElem?_eq_getElem h]; rfl
theorem lvat_row {L : List Ve} {i : Nat} {f : Ve → List It0} (h : i < L.length) : (L.map f)[i]? = some (f (lvat L i)) := map_some (by rw [lvat_get h, List.getElem?_eq_getElem h])
theorem lvat_mem {L : List Ve} {i : Nat} (h : i < L.length) : lvat L i ∈ L := by rw [lvat_get h]; exact List.getElem_mem h
def mcode (n : Int) (L : List Ve) : Int := findc (fun j => vcode n (lvat L j)) L.length 0
def tcode (n : Int) (L : List Ve) : Int := if n < 0 ∨ 4096 < n ∨ 4096 < (L.length : Int) then 5 else mcode n L
theorem mcode_zero {n : Int} {L : List Ve} (h : mcode n L = 0) : ∀ j, j < L.length → vcode n (lvat L j) = 0 := fun j hj => findc_zero.1 h j (Nat.zero_le _) (by omega)
/-- row r while column j is read: K entries are done -/
def trk (col : Ve) (j : Nat) (acc : Ve) (r : Nat) : Nat → Ve
  | 0 => acc
  | K + 1 => trk col j acc r K ++ (if (vat col K).1 = (r : Int) then [((j : Int), (vat col K).2)] else [])
def trj (L : List Ve) (r : Nat) : Nat → Ve
  | 0 => []
  | J + 1 => trk (lvat L J) J (trj L r J) r (lvat L J).length
def tra (L : List Ve) (n : Nat) : List Ve := (List.range n).map fun (r : Nat) => spf (fun j => atq (lvat L j) (r : Int)) L.length
theorem trk_eq {n : Int} {col : Ve} (hv : Val n col) (j : Nat) (acc : Ve) (r : Nat) : trk col j acc r col.length = acc ++ (if atq col (r : Int) = 0 then [] else [((j : Int), atq col (r : Int))]) := by
  have key : ∀ K, K ≤ col.length → trk col j acc r K = acc ++ (if vfi col (r : Int) < K then [((j : Int), atq col (r : Int))] else []) := by
    intro K
    induction K with
    | zero => intro _; simp [trk]
    | succ K ih =>
      intro hK
      rw [trk, ih (by omega)]
      by_cases h : (vat col K).1 = (r : Int)
      · have hi := hv.vfi_of (show K < col.length from hK)
        rw [h] at hi
        rw [if_pos h, hi, if_neg (Nat.lt_irrefl _), if_pos (Nat.lt_succ_self _), List.append_nil]
        unfold atq
        rw [hi]
      · rw [if_neg h, List.append_nil]
        congr 1
        by_cases h2 : vfi col (r : Int) < K
        · rw [if_pos h2, if_pos (by omega)]
        · have h3 : vfi col (r : Int) ≠ K := by
            intro h4
            have := vfi_at (v := col) (t := (r : Int)) (by omega)
            rw [h4] at this
            exact h this
          rw [if_neg h2, if_neg (by omega)]
  rw [key _ (Nat.le_refl _)]
  congr 1
  by_cases h : vfi col (r : Int) < col.length
  · have h0 : atq col (r : Int) ≠ 0 := hv.nz _ h
    rw [if_pos h, if_neg h0]
  · rw [if_neg h, if_pos (atq_none h)]
theorem trj_eq {n : Int} {L : List Ve} (hL : ∀ j, j < L.length → Val n (lvat L j)) (r : Nat) : ∀ J, J ≤ L.length → trj L r J = spf (fun j => atq (lvat L j) (r : Int)) J
  | 0, _ => rfl
  | J + 1, h => by
    rw [trj, trk_eq (hL J h), trj_eq hL r J (by omega)]
    by_cases h0 : atq (lvat L J) (r : Int) = 0
    · rw [if_pos h0, List.append_nil, spf_zero (f := fun j => atq (lvat L j) (r : Int)) h0]
    · rw [if_neg h0, spf_succ (f := fun j => atq (lvat L j) (r : Int)) h0]
section
variable {I : WInv} {c : Bool} {k : Nat}
abbrev fk (k : Nat) (L : List Ve) (j K r : Nat) : List (List It0) := (trk (lvat L j) j (trj L r j) r K).map (rowV true k)
abbrev fj (k : Nat) (L : List Ve) (j r : Nat) : List (List It0) := (trj L r j).map (rowV true k)
theorem fk_step {k : Nat} {L : List Ve} {j K x : Nat} (hx : (vat (lvat L j) K).1 = (x : Int)) : fk k L j (K + 1) = fun i => if i = x then fk k L j K x ++ [[.lit (.int .i64 (j : Int)), .it (fF true k (vat (lvat L j) K).2)]] else fk k L j K i := by
  funext i
  show (trk (lvat L j) j (trj L i j) i (K + 1)).map (rowV true k) = _
  rw [trk, List.map_append]
  by_cases h : i = x
  · subst h
    rw [if_pos hx, if_pos rfl]
    rfl
  · rw [if_neg (by rw [hx]; omega), if_neg h, List.map_nil, List.append_nil]

theorem trk_len (col : Ve) (j : Nat) (acc : Ve) (r : Nat) : ∀ K, (trk col j acc r K).length ≤ acc.length + K
  | 0 => Nat.le_refl _
  | K + 1 => by
    rw [trk, List.length_append]
    have := trk_len col j acc r K
    split <;> simp <;> omega
theorem trj_len {L : List Ve} {M : Nat} (hM : ∀ j, j < L.length → (lvat L j).length ≤ M) (r : Nat) : ∀ J, J ≤ L.length → (trj L r J).length ≤ J * M
  | 0, _ => by simp [trj]
  | J + 1, h => by
    rw [trj]
    have h1 := trk_len (lvat L J) J (trj L r J) r (lvat L J).length
    have h2 := trj_len hM r J (by omega)
    have h3 := hM J h
    rw [Nat.add_mul]
    omega
abbrev colE (c : Bool) (k : Nat) (L : List Ve) (j : Nat) (K : Int) : Env := [(9, .cv (.one (.sl 51))), (10, .cv (.one (.b (.lit (.int .i64 (j : Int)))))), (47, .cv (.one (.b (.it (slI 5 ((lvat L j).map (rowV c k))))))), (48, .cv (.one (.b (.lit (.int .i64 ((lvat L j).length : Int)))))), (49, .cv (.one (.b (.lit (.int .i64 K))))), (40, .cv (.one (.b (.it (slI 1 ((L).map (rowW c k))))))), (41, .cv (.one (.b (.lit (.int .i64 (L.length : Int)))))), (42, .cv (.one (.b (.lit (.int .i64 (j : Int))))))]
abbrev outE (c : Bool) (k : Nat) (L : List Ve) (j : Int) : Env := [(9, .cv (.one (.sl 51))), (40, .cv (.one (.b (.it (slI 1 ((L).map (rowW c k))))))), (41, .cv (.one (.b (.lit (.int .i64 (L.length : Int)))))), (42, .cv (.one (.b (.lit (.int .i64 j)))))]
abbrev rcolE (c : Bool) (k : Nat) (L : List Ve) (j : Nat) (K : Int) : Env := [(8, .cv (.one (.sl 51))), (0, .cv (.one (.b (.it (slI 1 ((L).map (rowW c k))))))), (9, .cv (.one (.b (.lit (.int .i64 (j : Int)))))), (10, .cv (.one (.b (.lit (.int .i64 K)))))]
abbrev routE (c : Bool) (k : Nat) (L : List Ve) (j : Int) : Env := [(8, .cv (.one (.sl 51))), (0, .cv (.one (.b (.it (slI 1 ((L).map (rowW c k))))))), (9, .cv (.one (.b (.lit (.int .i64 j)))))]
theorem tr_inner {n j : Nat} {L : List Ve} (hn : n ≤ 4096) (hj : j < L.length) (hv : Val (n : Int) (lvat L j)) (hk : k ≤ 200000) (hl : (lvat L j).length ≤ 4096) (ht : ∀ r, (trj L r j).length ≤ 16777216) : LoopTr Try.prog I 72 (loopC Try.prog 36 2) (mst (colE c k L j ((0 : Nat) : Int)) 41 23 n (fk k L j 0)) (.exit 4) (mst (outE c k L (j : Int)) 41 23 n (fk k L j (lvat L j).length)) := loop_up (by simp) (fun K => mst (colE c k L j (K : Int)) 41 23 n (fk k L j K)) (lvat L j).length (fun K hK => by
    have g1 := hv.ge K hK
    have g2 := hv.lt K hK
    obtain ⟨x, hx⟩ : ∃ x : Nat, (vat (lvat L j) K).1 = (x : Int) := ⟨(vat (lvat L j) K).1.toNat, by omega⟩
    have hxn : x < n := by omega
    have htk := trk_len (lvat L j) j (trj L x j) x K
    have htx := ht x
    rw [fk_step hx]
    refine Rnd.pre (open_leads hxn rfl) (Rnd.leads ?_ (close_leads (nm := 6019) (nx := 6024) (row := [.lit (.int .i64 (j : Int)), .it (fF true k (vat (lvat L j) K).2)]) hxn hn (by omega) (by omega) (by kernel_rfl) rfl))
    exact (show Rnd _ _ _ _ ⟨[(9, .cv (.one (.sl 51))), (10, .cv (.one (.b (.lit (.int .i64 (j : Int)))))), (47, .cv (.one (.b (.it (slI 5 ((lvat L j).map (rowV c k))))))), (48, .cv (.one (.b (.lit (.int .i64 ((lvat L j).length : Int)))))), (49, .cv (.one (.b (.lit (.int .i64 (K : Int)))))), (40, .cv (.one (.b (.it (slI 1 ((L).map (rowW c k))))))), (41, .cv (.one (.b (.lit (.int .i64 (L.length : Int)))))), (42, .cv (.one (.b (.lit (.int .i64 (j : Int))))))], [(7, some ⟨41, some (5, (fk k L j K x).length), flatR (fk k L j K x)⟩), (51, some ⟨23, some (1, n), outB n (opn x)⟩)] ++ famB 41 n (fun i => if i = x then none else some (fk k L j K i)), 6000⟩ .normal ⟨[(9, .cv (.one (.sl 51))), (10, .cv (.one (.b (.lit (.int .i64 (j : Int)))))), (47, .cv (.one (.b (.it (slI 5 ((lvat L j).map (rowV c k))))))), (48, .cv (.one (.b (.lit (.int .i64 ((lvat L j).length : Int)))))), (49, .cv (.one (.b (.lit (.int .i64 ((K + 1 : Nat) : Int)))))), (40, .cv (.one (.b (.it (slI 1 ((L).map (rowW c k))))))), (41, .cv (.one (.b (.lit (.int .i64 (L.length : Int)))))), (42, .cv (.one (.b (.lit (.int .i64 (j : Int))))))], [(6019, some ⟨41, some (5, (fk k L j K x).length + 1), (flatR (fk k L j K x)) ++ ([.b (.lit (.int .i64 (j : Int))), .b (.it (fF true k ((vat (lvat L j) K).2)))])⟩), (51, some ⟨23, some (1, n), (outB n (opn x)).set x (.sl 6019)⟩)] ++ famB 41 n (fun i => if i = x then none else some (fk k L j K i)), 6024⟩ from rnd_tail 8 1000 6000 1000 [pk (b_lss 3 (K : Int) ((lvat L j).length : Int) true (decide_eq_true (by omega))), pk (sl_idx 23 41 5 ((lvat L j).map (rowV c k)) K (K : Int) ((rowV c k) (vat (lvat L j) K)) (by kernel_rfl) (by kernel_rfl) (by omega) (vat_row hK)), ⟨.ix ((vat (lvat L j) K).1) x n, ⟨hx, hxn⟩⟩, ⟨.part (outB n (opn x)) (x * 1) 1 [.sl 7], (out_sub hxn)⟩, po (canonF (I := I) (c := c) (k := k) (m := k) (q := (vat (lvat L j) K).2) (by omega) (by omega)), ⟨.ap ((fk k L j K x).length) 1 72, ⟨by rw [List.length_map]; omega, by rw [List.length_map]; simp [maxLen]; omega⟩⟩, ⟨.ix ((vat (lvat L j) K).1) x n, ⟨hx, hxn⟩⟩, ⟨.upd (outB n (opn x)) (x * 1) [.sl 6019] ((outB n (opn x)).set x (.sl 6019)), (out_upd (nm := 6019) hxn)⟩, pk (b_add 3 (K : Int) 1 ⟨by omega, by omega⟩)] (fam_in hn) (by kernel_rfl))) (by
    exact Rnd.leads (show Rnd _ _ _ _ ⟨[(9, .cv (.one (.sl 51))), (10, .cv (.one (.b (.lit (.int .i64 (j : Int)))))), (47, .cv (.one (.b (.it (slI 5 ((lvat L j).map (rowV c k))))))), (48, .cv (.one (.b (.lit (.int .i64 ((lvat L j).length : Int)))))), (49, .cv (.one (.b (.lit (.int .i64 ((lvat L j).length : Int)))))), (40, .cv (.one (.b (.it (slI 1 ((L).map (rowW c k))))))), (41, .cv (.one (.b (.lit (.int .i64 (L.length : Int)))))), (42, .cv (.one (.b (.lit (.int .i64 (j : Int))))))], [(51, some ⟨23, some (1, n), outB n (· + 1000)⟩)] ++ famB 41 n (fun i => some (fk k L j (lvat L j).length i)), 6000⟩ (.exit 4) ⟨[(9, .cv (.one (.sl 51))), (40, .cv (.one (.b (.it (slI 1 ((L).map (rowW c k))))))), (41, .cv (.one (.b (.lit (.int .i64 (L.length : Int)))))), (42, .cv (.one (.b (.lit (.int .i64 (j : Int))))))], [(51, some ⟨23, some (1, n), outB n (· + 1000)⟩)] ++ famB 41 n (fun i => some (fk k L j (lvat L j).length i)), 6001⟩ from rnd_tail 1 1000 6000 1000 [pk (b_lss 3 ((lvat L j).length : Int) ((lvat L j).length : Int) false (decide_eq_false (by omega)))] (fam_in hn) (by kernel_rfl)) (mst_cut hn rfl))
theorem tr_outer {n : Nat} {L : List Ve} {M : Nat} (hn : n ≤ 4096) (hv : ∀ j, j < L.length → Val (n : Int) (lvat L j)) (hk : k ≤ 200000) (hL : L.length ≤ 4096) (hM : ∀ j, j < L.length → (lvat L j).length ≤ 4096) : LoopTr Try.prog I 72 (loopC Try.prog 36 1) (mst (outE c k L ((0 : Nat) : Int)) 41 23 n (fj k L 0)) (.exit 2) (mst [(9, .cv (.one (.sl 51)))] 41 23 n (fj k L L.length)) := loop_up (by simp) (fun j => mst (outE c k L (j : Int)) 41 23 n (fj k L j)) L.length (fun j hj => by
    have hlen := hM j hj
    have ht : ∀ r, (trj L r j).length ≤ 16777216 := fun r => by
      have := trj_len hM r j (Nat.le_of_lt hj)
      omega
    have p1 : Ph Try.prog I 72 [.code (loopC Try.prog 36 1)] (mst (outE c k L (j : Int)) 41 23 n (fj k L j)) (.code (.loop (loopC Try.prog 36 2)) :: [.blk 4, .blk 3, .code (codeR (loopC Try.prog 36 1) 3)]) (mst (colE c k L j ((0 : Nat) : Int)) 41 23 n (fk k L j 0)) :=
      Ph.post (show Ph _ _ _ [.code (loopC Try.prog 36 1)] ⟨[(9, .cv (.one (.sl 51))), (40, .cv (.one (.b (.it (slI 1 ((L).map (rowW c k))))))), (41, .cv (.one (.b (.lit (.int .i64 (L.length : Int)))))), (42, .cv (.one (.b (.lit (.int .i64 (j : Int))))))], [(51, some ⟨23, some (1, n), outB n (· + 1000)⟩)] ++ famB 41 n (fun i => some (fj k L j i)), 6000⟩ (.code (.loop (loopC Try.prog 36 2)) :: [.blk 4, .blk 3, .code (codeR (loopC Try.prog 36 1) 3)]) ⟨[(9, .cv (.one (.sl 51))), (10, .cv (.one (.b (.lit (.int .i64 (j : Int)))))), (47, .cv (.one (.b (.it (slI 5 (((lvat L j)).map (rowV c k))))))), (48, .cv (.one (.b (.lit (.int .i64 (((lvat L j)).length : Int)))))), (49, .cv (.one (.b (.lit (.int .i64 ((0 : Nat) : Int)))))), (40, .cv (.one (.b (.it (slI 1 ((L).map (rowW c k))))))), (41, .cv (.one (.b (.lit (.int .i64 (L.length : Int)))))), (42, .cv (.one (.b (.lit (.int .i64 (j : Int))))))], [(51, some ⟨23, some (1, n), outB n (· + 1000)⟩)] ++ famB 41 n (fun i => some (fj k L j i)), 6009⟩ from ph_tail 1 1000 6000 1000 [pk (b_lss 3 (j : Int) (L.length : Int) true (decide_eq_true (by omega))), pk (sl_idx 56 23 1 ((L).map (rowW c k)) j (j : Int) ((rowW c k) (lvat L j)) (by kernel_rfl) (by kernel_rfl) (by omega) (lvat_row hj)), pk (sl_len2 23 41 3 5 (((lvat L j)).map (rowV c k)) (((lvat L j)).length : Int) (by kernel_rfl) (by rw [List.length_map]))] (fam_in hn) (by kernel_rfl)) (mst_cut hn rfl)
    have p2 : Ph Try.prog I 72 [.blk 3, .code (codeR (loopC Try.prog 36 1) 3)] (mst (outE c k L (j : Int)) 41 23 n (fk k L j (lvat L j).length)) [] (mst (outE c k L ((j + 1 : Nat) : Int)) 41 23 n (fj k L (j + 1))) :=
      Ph.post (show Ph _ _ _ ([.blk 3] ++ [.code (codeR (loopC Try.prog 36 1) 3)]) ⟨[(9, .cv (.one (.sl 51))), (40, .cv (.one (.b (.it (slI 1 ((L).map (rowW c k))))))), (41, .cv (.one (.b (.lit (.int .i64 (L.length : Int)))))), (42, .cv (.one (.b (.lit (.int .i64 (j : Int))))))], [(51, some ⟨23, some (1, n), outB n (· + 1000)⟩)] ++ famB 41 n (fun i => some (fk k L j (lvat L j).length i)), 6000⟩ [] ⟨[(9, .cv (.one (.sl 51))), (40, .cv (.one (.b (.it (slI 1 ((L).map (rowW c k))))))), (41, .cv (.one (.b (.lit (.int .i64 (L.length : Int)))))), (42, .cv (.one (.b (.lit (.int .i64 ((j + 1 : Nat) : Int))))))], [(51, some ⟨23, some (1, n), outB n (· + 1000)⟩)] ++ famB 41 n (fun i => some (fk k L j (lvat L j).length i)), 6002⟩ from ph_tail 1 1000 6000 1000 [pk (b_add 3 (j : Int) 1 ⟨by omega, by omega⟩)] (fam_in hn) (by kernel_rfl)) (mst_cut hn rfl)
    exact rnd_inner p1 (tr_inner hn hj (hv j hj) hk hlen ht) rfl p2) (by
    exact Rnd.leads (show Rnd _ _ _ _ ⟨[(9, .cv (.one (.sl 51))), (40, .cv (.one (.b (.it (slI 1 ((L).map (rowW c k))))))), (41, .cv (.one (.b (.lit (.int .i64 (L.length : Int)))))), (42, .cv (.one (.b (.lit (.int .i64 (L.length : Int))))))], [(51, some ⟨23, some (1, n), outB n (· + 1000)⟩)] ++ famB 41 n (fun i => some (fj k L L.length i)), 6000⟩ (.exit 2) ⟨[(9, .cv (.one (.sl 51)))], [(51, some ⟨23, some (1, n), outB n (· + 1000)⟩)] ++ famB 41 n (fun i => some (fj k L L.length i)), 6001⟩ from rnd_tail 1 1000 6000 1000 [pk (b_lss 3 (L.length : Int) (L.length : Int) false (decide_eq_false (by omega)))] (fam_in hn) (by kernel_rfl)) (mst_cut hn rfl))
end
end Go.Proofs.Ytpampkliahopdaa

/- Transpose, Multiply and SameVectors as functions. -/
namespace Go.Proofs.Ytpampkliahopdaa
open Go Go.RowKit
set_option linter.unusedVariables false
set_option linter.unusedSimpArgs false

theorem Val.len {n : Int} {v : Ve} (h : Val n v) : (v.length : Int) ≤ n := by
  have key : ∀ i, i < v.length → (i : Int) ≤ (vat v i).1 := by
    intro i
    induction i with
    | zero => intro hi; exact h.ge 0 hi
    | succ i ih => intro hi; have := ih (by omega); have := h.asc i (i + 1) (by omega) hi; omega
  by_cases h0 : v.length = 0
  · have := h.dim; omega
  · have h1 := key (v.length - 1) (by omega)
    have h2 := h.lt (v.length - 1) (by omega)
    omega
section
variable {I : WInv} {c c' : Bool} {k j kk : Nat}

theorem rtr_inner {n j : Nat} {L : List Ve} (hn : n ≤ 4096) (hj : j < L.length) (hv : Val (n : Int) (lvat L j)) (hk : k ≤ 200000) (hL : L.length ≤ 4096) (hl : (lvat L j).length ≤ 4096) (ht : ∀ r, (trj L r j).length ≤ 16777216) : LoopTr Try.prog I 79 (loopC Try.prog 37 2) (mst (rcolE c k L j ((0 : Nat) : Int)) 41 23 n (fk k L j 0)) (.exit 4) (mst (routE c k L (j : Int)) 41 23 n (fk k L j (lvat L j).length)) := loop_up (by simp) (fun K => mst (rcolE c k L j (K : Int)) 41 23 n (fk k L j K)) (lvat L j).length (fun K hK => by
    have g1 := hv.ge K hK
    have g2 := hv.lt K hK
    obtain ⟨x, hx⟩ : ∃ x : Nat, (vat (lvat L j) K).1 = (x : Int) := ⟨(vat (lvat L j) K).1.toNat, by omega⟩
    have hxn : x < n := by omega
    have htk := trk_len (lvat L j) j (trj L x j) x K
    have htx := ht x
    rw [fk_step hx]
    refine Rnd.pre (open_leads hxn rfl) (Rnd.leads ?_ (close_leads (nm := 6030) (nx := 6036) (row := [.lit (.int .i64 (j : Int)), .it (fF true k (vat (lvat L j) K).2)]) hxn hn (by omega) (by omega) (by kernel_rfl) rfl))
    exact (show Rnd _ _ _ _ ⟨[(8, .cv (.one (.sl 51))), (0, .cv (.one (.b (.it (slI 1 ((L).map (rowW c k))))))), (9, .cv (.one (.b (.lit (.int .i64 (j : Int)))))), (10, .cv (.one (.b (.lit (.int .i64 (K : Int))))))], [(7, some ⟨41, some (5, (fk k L j K x).length), flatR (fk k L j K x)⟩), (51, some ⟨23, some (1, n), outB n (opn x)⟩)] ++ famB 41 n (fun i => if i = x then none else some (fk k L j K i)), 6000⟩ .normal ⟨[(8, .cv (.one (.sl 51))), (0, .cv (.one (.b (.it (slI 1 ((L).map (rowW c k))))))), (9, .cv (.one (.b (.lit (.int .i64 (j : Int)))))), (10, .cv (.one (.b (.lit (.int .i64 ((K + 1 : Nat) : Int))))))], [(6030, some ⟨41, some (5, (fk k L j K x).length + 1), (flatR (fk k L j K x)) ++ ([.b (.lit (.int .i64 (j : Int))), .b (.it (fF true k ((vat (lvat L j) K).2)))])⟩), (51, some ⟨23, some (1, n), (outB n (opn x)).set x (.sl 6030)⟩)] ++ famB 41 n (fun i => if i = x then none else some (fk k L j K i)), 6036⟩ from rnd_tail 8 1000 6000 1000 [pk (sl_idx 56 23 1 ((L).map (rowW c k)) j (j : Int) ((rowW c k) (lvat L j)) (by kernel_rfl) (by kernel_rfl) (by omega) (lvat_row hj)), pk (sl_len2 23 41 3 5 (((lvat L j)).map (rowV c k)) (((lvat L j)).length : Int) (by kernel_rfl) (by rw [List.length_map])), pk (b_lss 3 (K : Int) (((lvat L j)).length : Int) true (decide_eq_true (by omega))), pk (sl_idx 56 23 1 ((L).map (rowW c k)) j (j : Int) ((rowW c k) (lvat L j)) (by kernel_rfl) (by kernel_rfl) (by omega) (lvat_row hj)), pk (sl_idx 23 41 5 (((lvat L j)).map (rowV c k)) K (K : Int) ((rowV c k) (vat (lvat L j) K)) (by kernel_rfl) (by kernel_rfl) (by omega) (vat_row hK)), ⟨.ix ((vat (lvat L j) K).1) x n, ⟨hx, hxn⟩⟩, ⟨.part (outB n (opn x)) (x * 1) 1 [.sl 7], (out_sub hxn)⟩, po (rreduceF (I := I) (c := c) (k := k) (p := (vat (lvat L j) K).2) (by omega)), ⟨.ap ((fk k L j K x).length) 1 72, ⟨by rw [List.length_map]; omega, by rw [List.length_map]; simp [maxLen]; omega⟩⟩, ⟨.ix ((vat (lvat L j) K).1) x n, ⟨hx, hxn⟩⟩, ⟨.upd (outB n (opn x)) (x * 1) [.sl 6030] ((outB n (opn x)).set x (.sl 6030)), (out_upd (nm := 6030) hxn)⟩, pk (b_add 3 (K : Int) 1 ⟨by omega, by omega⟩)] (fam_in hn) (by kernel_rfl))) (by
    exact Rnd.leads (show Rnd _ _ _ _ ⟨[(8, .cv (.one (.sl 51))), (0, .cv (.one (.b (.it (slI 1 ((L).map (rowW c k))))))), (9, .cv (.one (.b (.lit (.int .i64 (j : Int)))))), (10, .cv (.one (.b (.lit (.int .i64 ((lvat L j).length : Int))))))], [(51, some ⟨23, some (1, n), outB n (· + 1000)⟩)] ++ famB 41 n (fun i => some (fk k L j (lvat L j).length i)), 6000⟩ (.exit 4) ⟨[(8, .cv (.one (.sl 51))), (0, .cv (.one (.b (.it (slI 1 ((L).map (rowW c k))))))), (9, .cv (.one (.b (.lit (.int .i64 (j : Int))))))], [(51, some ⟨23, some (1, n), outB n (· + 1000)⟩)] ++ famB 41 n (fun i => some (fk k L j (lvat L j).length i)), 6007⟩ from rnd_tail 1 1000 6000 1000 [pk (sl_idx 56 23 1 ((L).map (rowW c k)) j (j : Int) ((rowW c k) (lvat L j)) (by kernel_rfl) (by kernel_rfl) (by omega) (lvat_row hj)), pk (sl_len2 23 41 3 5 (((lvat L j)).map (rowV c k)) (((lvat L j)).length : Int) (by kernel_rfl) (by rw [List.length_map])), pk (b_lss 3 ((lvat L j).length : Int) (((lvat L j)).length : Int) false (decide_eq_false (by omega)))] (fam_in hn) (by kernel_rfl)) (mst_cut hn rfl))
theorem rtr_outer {n : Nat} {L : List Ve} (hn : n ≤ 4096) (hv : ∀ j, j < L.length → Val (n : Int) (lvat L j)) (hk : k ≤ 200000) (hL : L.length ≤ 4096) (hM : ∀ j, j < L.length → (lvat L j).length ≤ 4096) : LoopTr Try.prog I 79 (loopC Try.prog 37 1) (mst (routE c k L ((0 : Nat) : Int)) 41 23 n (fj k L 0)) (.exit 2) (mst [(8, .cv (.one (.sl 51)))] 41 23 n (fj k L L.length)) := loop_up (by simp) (fun j => mst (routE c k L (j : Int)) 41 23 n (fj k L j)) L.length (fun j hj => by
    have hlen := hM j hj
    have ht : ∀ r, (trj L r j).length ≤ 16777216 := fun r => by
      have := trj_len hM r j (Nat.le_of_lt hj)
      omega
    have p1 : Ph Try.prog I 79 [.code (loopC Try.prog 37 1)] (mst (routE c k L (j : Int)) 41 23 n (fj k L j)) (.code (.loop (loopC Try.prog 37 2)) :: [.blk 4, .blk 3, .code (codeR (loopC Try.prog 37 1) 2)]) (mst (rcolE c k L j ((0 : Nat) : Int)) 41 23 n (fk k L j 0)) :=
      Ph.post (show Ph _ _ _ [.code (loopC Try.prog 37 1)] ⟨[(8, .cv (.one (.sl 51))), (0, .cv (.one (.b (.it (slI 1 ((L).map (rowW c k))))))), (9, .cv (.one (.b (.lit (.int .i64 (j : Int))))))], [(51, some ⟨23, some (1, n), outB n (· + 1000)⟩)] ++ famB 41 n (fun i => some (fj k L j i)), 6000⟩ (.code (.loop (loopC Try.prog 37 2)) :: [.blk 4, .blk 3, .code (codeR (loopC Try.prog 37 1) 2)]) ⟨[(8, .cv (.one (.sl 51))), (0, .cv (.one (.b (.it (slI 1 ((L).map (rowW c k))))))), (9, .cv (.one (.b (.lit (.int .i64 (j : Int)))))), (10, .cv (.one (.b (.lit (.int .i64 ((0 : Nat) : Int))))))], [(51, some ⟨23, some (1, n), outB n (· + 1000)⟩)] ++ famB 41 n (fun i => some (fj k L j i)), 6005⟩ from ph_tail 1 1000 6000 1000 [pk (sl_len2 56 23 3 1 ((L).map (rowW c k)) ((L).length : Int) (by kernel_rfl) (by rw [List.length_map])), pk (b_lss 3 (j : Int) ((L).length : Int) true (decide_eq_true (by omega)))] (fam_in hn) (by kernel_rfl)) (mst_cut hn rfl)
    have p2 : Ph Try.prog I 79 [.blk 3, .code (codeR (loopC Try.prog 37 1) 2)] (mst (routE c k L (j : Int)) 41 23 n (fk k L j (lvat L j).length)) [] (mst (routE c k L ((j + 1 : Nat) : Int)) 41 23 n (fj k L (j + 1))) :=
      Ph.post (show Ph _ _ _ ([.blk 3] ++ [.code (codeR (loopC Try.prog 37 1) 2)]) ⟨[(8, .cv (.one (.sl 51))), (0, .cv (.one (.b (.it (slI 1 ((L).map (rowW c k))))))), (9, .cv (.one (.b (.lit (.int .i64 (j : Int))))))], [(51, some ⟨23, some (1, n), outB n (· + 1000)⟩)] ++ famB 41 n (fun i => some (fk k L j (lvat L j).length i)), 6000⟩ [] ⟨[(8, .cv (.one (.sl 51))), (0, .cv (.one (.b (.it (slI 1 ((L).map (rowW c k))))))), (9, .cv (.one (.b (.lit (.int .i64 ((j + 1 : Nat) : Int))))))], [(51, some ⟨23, some (1, n), outB n (· + 1000)⟩)] ++ famB 41 n (fun i => some (fk k L j (lvat L j).length i)), 6003⟩ from ph_tail 1 1000 6000 1000 [pk (b_add 3 (j : Int) 1 ⟨by omega, by omega⟩)] (fam_in hn) (by kernel_rfl)) (mst_cut hn rfl)
    exact rnd_inner p1 (rtr_inner hn hj (hv j hj) hk hL hlen ht) rfl p2) (by
    exact Rnd.leads (show Rnd _ _ _ _ ⟨[(8, .cv (.one (.sl 51))), (0, .cv (.one (.b (.it (slI 1 ((L).map (rowW c k))))))), (9, .cv (.one (.b (.lit (.int .i64 (L.length : Int))))))], [(51, some ⟨23, some (1, n), outB n (· + 1000)⟩)] ++ famB 41 n (fun i => some (fj k L L.length i)), 6000⟩ (.exit 2) ⟨[(8, .cv (.one (.sl 51)))], [(51, some ⟨23, some (1, n), outB n (· + 1000)⟩)] ++ famB 41 n (fun i => some (fj k L L.length i)), 6004⟩ from rnd_tail 1 1000 6000 1000 [pk (sl_len2 56 23 3 1 ((L).map (rowW c k)) ((L).length : Int) (by kernel_rfl) (by rw [List.length_map])), pk (b_lss 3 (L.length : Int) ((L).length : Int) false (decide_eq_false (by omega)))] (fam_in hn) (by kernel_rfl)) (mst_cut hn rfl))
theorem fam_rows {n : Nat} {L : List Ve} (hv : ∀ j, j < L.length → Val (n : Int) (lvat L j)) : ((List.range n).map fun i => [It0.it (slI 5 (fj k L L.length i))]) = (tra L n).map (rowW true k) := by
  unfold tra
  rw [List.map_map]
  apply List.map_congr_left
  intro r _
  show [It0.it (slI 5 ((trj L r L.length).map (rowV true k)))] = _
  rw [trj_eq hv r _ (Nat.le_refl _)]
  rfl
theorem tcode_zero {n : Int} {L : List Ve} (h : tcode n L = 0) : 0 ≤ n ∧ n ≤ 4096 ∧ L.length ≤ 4096 ∧ mcode n L = 0 := by
  unfold tcode at h
  by_cases h1 : n < 0 ∨ 4096 < n ∨ 4096 < (L.length : Int)
  · rw [if_pos h1] at h; omega
  · rw [if_neg h1] at h
    exact ⟨by omega, by omega, by omega, h⟩

theorem tr_checks (n : Int) (L : List Ve) (hk : k ≤ 200000) (hL : L.length ≤ 1000000000) (hM : ∀ v ∈ L, v.length ≤ 1000000000) : (mcode n L = 0 → LoopTr Try.prog I 72 (loopC Try.prog 36 0) ⟨[(0, .cv (.one (.b (.it (slI 1 ((L).map (rowW c k))))))), (1, .cv (.one (.b (.lit (.int .i64 n))))), (25, .cv (.one (.b (.it (slI 1 ((L).map (rowW c k))))))), (26, .cv (.one (.b (.lit (.int .i64 (L.length : Int)))))), (27, .cv (.one (.b (.lit (.int .i64 ((0 : Nat) : Int))))))], [], 50⟩ (.exit 0) ⟨[(0, .cv (.one (.b (.it (slI 1 ((L).map (rowW c k))))))), (1, .cv (.one (.b (.lit (.int .i64 n)))))], [], 50⟩) ∧ (mcode n L ≠ 0 → LoopTr Try.prog I 72 (loopC Try.prog 36 0) ⟨[(0, .cv (.one (.b (.it (slI 1 ((L).map (rowW c k))))))), (1, .cv (.one (.b (.lit (.int .i64 n))))), (25, .cv (.one (.b (.it (slI 1 ((L).map (rowW c k))))))), (26, .cv (.one (.b (.lit (.int .i64 (L.length : Int)))))), (27, .cv (.one (.b (.lit (.int .i64 ((0 : Nat) : Int))))))], [], 50⟩ .ret ⟨[(4, tlit (.slice none 0 0)), (5, li (mcode n L))], [], 50⟩) :=
  loop_find (fun j => vcode n (lvat L j)) L.length (fun j => ⟨[(0, .cv (.one (.b (.it (slI 1 ((L).map (rowW c k))))))), (1, .cv (.one (.b (.lit (.int .i64 n))))), (25, .cv (.one (.b (.it (slI 1 ((L).map (rowW c k))))))), (26, .cv (.one (.b (.lit (.int .i64 (L.length : Int)))))), (27, .cv (.one (.b (.lit (.int .i64 (j : Int))))))], [], 50⟩) (fun r => ⟨[(4, tlit (.slice none 0 0)), (5, li r)], [], 50⟩) (fun j hj hc => by
    have va := validate_sp (I := I) (c := c) (k := k) (lvat L j) n (by omega) (hM _ (lvat_mem hj))
    have hc : vcode n (lvat L j) = 0 := hc
    rw [hc] at va
    exact rnd_run 1000 [pk (b_lss 3 (j : Int) (L.length : Int) true (decide_eq_true (by omega))), pk (sl_idx 56 23 1 ((L).map (rowW c k)) j (j : Int) ((rowW c k) (lvat L j)) (by kernel_rfl) (by kernel_rfl) (by omega) (lvat_row hj)), po (va), ⟨.auto, trivial⟩, pk (b_add 3 (j : Int) 1 ⟨by omega, by omega⟩)] (by kernel_rfl)) (by
    exact rnd_run 1000 [pk (b_lss 3 (L.length : Int) (L.length : Int) false (decide_eq_false (by omega)))] (by kernel_rfl)) (fun j hj hc => by
    have va := validate_sp (I := I) (c := c) (k := k) (lvat L j) n (by omega) (hM _ (lvat_mem hj))
    show Rnd _ _ _ _ _ _ ⟨[(4, tlit (.slice none 0 0)), (5, li (vcode n (lvat L j)))], [], 50⟩
    have hc : ¬ vcode n (lvat L j) = 0 := hc
    generalize vcode n (lvat L j) = r at *
    exact rnd_run 1000 [pk (b_lss 3 (j : Int) (L.length : Int) true (decide_eq_true (by omega))), pk (sl_idx 56 23 1 ((L).map (rowW c k)) j (j : Int) ((rowW c k) (lvat L j)) (by kernel_rfl) (by kernel_rfl) (by omega) (lvat_row hj)), po (va), pk (b_neq 26 r 0 true (decide_eq_false (by omega)))] (by kernel_rfl))
theorem rtr_checks (n : Int) (L : List Ve) (hk : k ≤ 200000) (hL : L.length ≤ 1000000000) (hM : ∀ v ∈ L, v.length ≤ 1000000000) : (mcode n L = 0 → LoopTr Try.prog I 79 (loopC Try.prog 37 0) ⟨[(0, .cv (.one (.b (.it (slI 1 ((L).map (rowW c k))))))), (1, .cv (.one (.b (.lit (.int .i64 n))))), (6, .cv (.one (.b (.lit (.int .i64 ((0 : Nat) : Int))))))], [], 50⟩ (.exit 0) ⟨[(0, .cv (.one (.b (.it (slI 1 ((L).map (rowW c k))))))), (1, .cv (.one (.b (.lit (.int .i64 n)))))], [], 50⟩) ∧ (mcode n L ≠ 0 → LoopTr Try.prog I 79 (loopC Try.prog 37 0) ⟨[(0, .cv (.one (.b (.it (slI 1 ((L).map (rowW c k))))))), (1, .cv (.one (.b (.lit (.int .i64 n))))), (6, .cv (.one (.b (.lit (.int .i64 ((0 : Nat) : Int))))))], [], 50⟩ .ret ⟨[(4, tlit (.slice none 0 0)), (5, li (mcode n L))], [], 50⟩) :=
  loop_find (fun j => vcode n (lvat L j)) L.length (fun j => ⟨[(0, .cv (.one (.b (.it (slI 1 ((L).map (rowW c k))))))), (1, .cv (.one (.b (.lit (.int .i64 n))))), (6, .cv (.one (.b (.lit (.int .i64 (j : Int))))))], [], 50⟩) (fun r => ⟨[(4, tlit (.slice none 0 0)), (5, li r)], [], 50⟩) (fun j hj hc => by
    have va := rvalidate_sp (I := I) (c := c) (k := k) (lvat L j) n (by omega) (hM _ (lvat_mem hj))
    have hc : vcode n (lvat L j) = 0 := hc
    rw [hc] at va
    exact rnd_run 1000 [pk (sl_len2 56 23 3 1 ((L).map (rowW c k)) ((L).length : Int) (by kernel_rfl) (by rw [List.length_map])), pk (b_lss 3 (j : Int) ((L).length : Int) true (decide_eq_true (by omega))), pk (sl_idx 56 23 1 ((L).map (rowW c k)) j (j : Int) ((rowW c k) (lvat L j)) (by kernel_rfl) (by kernel_rfl) (by omega) (lvat_row hj)), po (va), ⟨.auto, trivial⟩, pk (b_add 3 (j : Int) 1 ⟨by omega, by omega⟩)] (by kernel_rfl)) (by
    exact rnd_run 1000 [pk (sl_len2 56 23 3 1 ((L).map (rowW c k)) ((L).length : Int) (by kernel_rfl) (by rw [List.length_map])), pk (b_lss 3 (L.length : Int) ((L).length : Int) false (decide_eq_false (by omega)))] (by kernel_rfl)) (fun j hj hc => by
    have va := rvalidate_sp (I := I) (c := c) (k := k) (lvat L j) n (by omega) (hM _ (lvat_mem hj))
    show Rnd _ _ _ _ _ _ ⟨[(4, tlit (.slice none 0 0)), (5, li (vcode n (lvat L j)))], [], 50⟩
    have hc : ¬ vcode n (lvat L j) = 0 := hc
    generalize vcode n (lvat L j) = r at *
    exact rnd_run 1000 [pk (sl_len2 56 23 3 1 ((L).map (rowW c k)) ((L).length : Int) (by kernel_rfl) (by rw [List.length_map])), pk (b_lss 3 (j : Int) ((L).length : Int) true (decide_eq_true (by omega))), pk (sl_idx 56 23 1 ((L).map (rowW c k)) j (j : Int) ((rowW c k) (lvat L j)) (by kernel_rfl) (by kernel_rfl) (by omega) (lvat_row hj)), po (va), pk (b_neq 26 r 0 true (decide_eq_false (by omega)))] (by kernel_rfl))
theorem transpose_sp (n : Nat) (L : List Ve) (h0 : tcode (n : Int) L = 0) (hk : k ≤ 200000) (hM : ∀ v ∈ L, v.length ≤ 1000000000) : Sp Try.prog I 36 [.one (.b (.it (matI c k L))), ci (n : Int)] (.tu [.one (.b (.it (matI true k (tra L n)))), ci 0]) := by
  obtain ⟨g1, g2, g3, g4⟩ := tcode_zero h0
  have hv : ∀ j, j < L.length → Val (n : Int) (lvat L j) := fun j hj => val_of (mcode_zero g4 j hj)
  have lo1 := (tr_checks (I := I) (c := c) (k := k) (n : Int) L hk (by omega) hM).1 g4
  have tr := tr_outer (I := I) (c := c) (k := k) (M := 4096) (by omega) hv hk g3 (fun j hj => by have := (hv j hj).len; omega)
  have lo2 := (LoopTr.pre (show Leads I 72 ⟨outE c k L ((0 : Nat) : Int), [(51, some ⟨23, some (1, n), rep n [.b (.lit (.slice none 0 0))]⟩)], 900⟩ (mst (outE c k L ((0 : Nat) : Int)) 41 23 n (fj k L 0)) from fam_init (by omega) (by omega)) tr).post (fam_freeze (by omega) (fun i _ => rowV_w _))
  rw [fam_rows hv] at lo2
  exact sp_run (nt := 72) 1000 [pk (b_lss 3 (n : Int) 0 false (decide_eq_false (by omega))), pk (b_gtr 3 (n : Int) 4096 false (decide_eq_false (by omega))), pk (sl_len2 56 23 3 1 ((L).map (rowW c k)) ((L).length : Int) (by kernel_rfl) (by rw [List.length_map])), pk (b_gtr 3 ((L).length : Int) 4096 false (decide_eq_false (by omega))), pk (sl_len2 56 23 3 1 ((L).map (rowW c k)) ((L).length : Int) (by kernel_rfl) (by rw [List.length_map])), pl (lo1), ⟨.mk (n : Int) n 24, ⟨rfl, by omega, by simp [maxLen]; omega⟩⟩, ⟨.mk (n : Int) n 24, ⟨rfl, by omega, by simp [maxLen]; omega⟩⟩, pk (sl_len2 56 23 3 1 ((L).map (rowW c k)) ((L).length : Int) (by kernel_rfl) (by rw [List.length_map])), pl (lo2)] (by kernel_rfl)
theorem rtranspose_sp (n : Nat) (L : List Ve) (h0 : tcode (n : Int) L = 0) (hk : k ≤ 200000) (hM : ∀ v ∈ L, v.length ≤ 1000000000) : Sp Try.prog I 37 [.one (.b (.it (matI c k L))), ci (n : Int)] (.tu [.one (.b (.it (matI true k (tra L n)))), ci 0]) := by
  obtain ⟨g1, g2, g3, g4⟩ := tcode_zero h0
  have hv : ∀ j, j < L.length → Val (n : Int) (lvat L j) := fun j hj => val_of (mcode_zero g4 j hj)
  have lo1 := (rtr_checks (I := I) (c := c) (k := k) (n : Int) L hk (by omega) hM).1 g4
  have tr := rtr_outer (I := I) (c := c) (k := k) (by omega) hv hk g3 (fun j hj => by have := (hv j hj).len; omega)
  have lo2 := (LoopTr.pre (show Leads I 79 ⟨routE c k L ((0 : Nat) : Int), [(51, some ⟨23, some (1, n), rep n [.b (.lit (.slice none 0 0))]⟩)], 900⟩ (mst (routE c k L ((0 : Nat) : Int)) 41 23 n (fj k L 0)) from fam_init (by omega) (by omega)) tr).post (fam_freeze (by omega) (fun i _ => rowV_w _))
  rw [fam_rows hv] at lo2
  exact sp_run (nt := 79) 1000 [pk (b_lss 3 (n : Int) 0 false (decide_eq_false (by omega))), pk (b_gtr 3 (n : Int) 4096 false (decide_eq_false (by omega))), pk (sl_len2 56 23 3 1 ((L).map (rowW c k)) ((L).length : Int) (by kernel_rfl) (by rw [List.length_map])), pk (b_gtr 3 ((L).length : Int) 4096 false (decide_eq_false (by omega))), pl (lo1), ⟨.mk (n : Int) n 24, ⟨rfl, by omega, by simp [maxLen]; omega⟩⟩, ⟨.mk (n : Int) n 24, ⟨rfl, by omega, by simp [maxLen]; omega⟩⟩, pl (lo2)] (by kernel_rfl)
theorem transpose_err (n : Int) (r : Int) (L : List Ve) (h0 : tcode n L = r) (hr : ¬ r = 0) (hk : k ≤ 200000) (hL : L.length ≤ 1000000000) (hM : ∀ v ∈ L, v.length ≤ 1000000000) : Sp Try.prog I 36 [.one (.b (.it (matI c k L))), ci n] (.tu [.one (.b (.lit (.slice none 0 0))), ci r]) := by
  unfold tcode at h0
  by_cases h1 : n < 0
  · rw [if_pos (.inl h1)] at h0
    subst h0
    exact sp_run (nt := 72) 1000 [pk (b_lss 3 n 0 true (decide_eq_true (by omega)))] (by kernel_rfl)
  · by_cases h2 : 4096 < n
    · rw [if_pos (.inr (.inl h2))] at h0
      subst h0
      exact sp_run (nt := 72) 1000 [pk (b_lss 3 n 0 false (decide_eq_false (by omega))), pk (b_gtr 3 n 4096 true (decide_eq_true (by omega)))] (by kernel_rfl)
    · by_cases h3 : 4096 < (L.length : Int)
      · rw [if_pos (.inr (.inr h3))] at h0
        subst h0
        exact sp_run (nt := 72) 1000 [pk (b_lss 3 n 0 false (decide_eq_false (by omega))), pk (b_gtr 3 n 4096 false (decide_eq_false (by omega))), pk (sl_len2 56 23 3 1 ((L).map (rowW c k)) ((L).length : Int) (by kernel_rfl) (by rw [List.length_map])), pk (b_gtr 3 ((L).length : Int) 4096 true (decide_eq_true (by omega)))] (by kernel_rfl)
      · rw [if_neg (by omega)] at h0
        have lo1 := (tr_checks (I := I) (c := c) (k := k) n L hk hL hM).2 (by rw [h0]; exact hr)
        rw [h0] at lo1
        exact sp_run (nt := 72) 1000 [pk (b_lss 3 n 0 false (decide_eq_false (by omega))), pk (b_gtr 3 n 4096 false (decide_eq_false (by omega))), pk (sl_len2 56 23 3 1 ((L).map (rowW c k)) ((L).length : Int) (by kernel_rfl) (by rw [List.length_map])), pk (b_gtr 3 ((L).length : Int) 4096 false (decide_eq_false (by omega))), pk (sl_len2 56 23 3 1 ((L).map (rowW c k)) ((L).length : Int) (by kernel_rfl) (by rw [List.length_map])), pl (lo1)] (by kernel_rfl)
theorem rtranspose_err (n : Int) (r : Int) (L : List Ve) (h0 : tcode n L = r) (hr : ¬ r = 0) (hk : k ≤ 200000) (hL : L.length ≤ 1000000000) (hM : ∀ v ∈ L, v.length ≤ 1000000000) : Sp Try.prog I 37 [.one (.b (.it (matI c k L))), ci n] (.tu [.one (.b (.lit (.slice none 0 0))), ci r]) := by
  unfold tcode at h0
  by_cases h1 : n < 0
  · rw [if_pos (.inl h1)] at h0
    subst h0
    exact sp_run (nt := 79) 1000 [pk (b_lss 3 n 0 true (decide_eq_true (by omega)))] (by kernel_rfl)
  · by_cases h2 : 4096 < n
    · rw [if_pos (.inr (.inl h2))] at h0
      subst h0
      exact sp_run (nt := 79) 1000 [pk (b_lss 3 n 0 false (decide_eq_false (by omega))), pk (b_gtr 3 n 4096 true (decide_eq_true (by omega)))] (by kernel_rfl)
    · by_cases h3 : 4096 < (L.length : Int)
      · rw [if_pos (.inr (.inr h3))] at h0
        subst h0
        exact sp_run (nt := 79) 1000 [pk (b_lss 3 n 0 false (decide_eq_false (by omega))), pk (b_gtr 3 n 4096 false (decide_eq_false (by omega))), pk (sl_len2 56 23 3 1 ((L).map (rowW c k)) ((L).length : Int) (by kernel_rfl) (by rw [List.length_map])), pk (b_gtr 3 ((L).length : Int) 4096 true (decide_eq_true (by omega)))] (by kernel_rfl)
      · rw [if_neg (by omega)] at h0
        have lo1 := (rtr_checks (I := I) (c := c) (k := k) n L hk hL hM).2 (by rw [h0]; exact hr)
        rw [h0] at lo1
        exact sp_run (nt := 79) 1000 [pk (b_lss 3 n 0 false (decide_eq_false (by omega))), pk (b_gtr 3 n 4096 false (decide_eq_false (by omega))), pk (sl_len2 56 23 3 1 ((L).map (rowW c k)) ((L).length : Int) (by kernel_rfl) (by rw [List.length_map])), pk (b_gtr 3 ((L).length : Int) 4096 false (decide_eq_false (by omega))), pl (lo1)] (by kernel_rfl)

/-! ### equality of matrices -/

theorem sameVecs_sp (L : List Ve) (hL : L.length ≤ 1000000000) (hM : ∀ v ∈ L, v.length ≤ 1000000000) : Sp Try.prog I 38 [.one (.b (.it (matI true k L))), .one (.b (.it (matI true j L)))] (lb true) := by
  have lo : LoopTr Try.prog I 27 (loopC Try.prog 38 0) ⟨[(0, .cv (.one (.b (.it (slI 1 ((L).map (rowW true k))))))), (1, .cv (.one (.b (.it (slI 1 ((L).map (rowW true j))))))), (5, .cv (.one (.b (.lit (.int .i64 ((0 : Nat) : Int))))))], [], 50⟩ (.exit 0) ⟨[], [], 50⟩ := loop_up (by simp) (fun i => ⟨[(0, .cv (.one (.b (.it (slI 1 ((L).map (rowW true k))))))), (1, .cv (.one (.b (.it (slI 1 ((L).map (rowW true j))))))), (5, .cv (.one (.b (.lit (.int .i64 (i : Int))))))], [], 50⟩) L.length (fun i hi => by
    have s := sameVec_sp (I := I) (k := k) (j := j) (lvat L i) (hM _ (lvat_mem hi))
    exact rnd_run 1000 [pk (sl_len2 56 23 3 1 ((L).map (rowW true k)) ((L).length : Int) (by kernel_rfl) (by rw [List.length_map])), pk (b_lss 3 (i : Int) ((L).length : Int) true (decide_eq_true (by omega))), pk (sl_idx 56 23 1 ((L).map (rowW true k)) i (i : Int) ((rowW true k) (lvat L i)) (by kernel_rfl) (by kernel_rfl) (by omega) (lvat_row hi)), pk (sl_idx 56 23 1 ((L).map (rowW true j)) i (i : Int) ((rowW true j) (lvat L i)) (by kernel_rfl) (by kernel_rfl) (by omega) (lvat_row hi)), po (s), ⟨.auto, trivial⟩, pk (b_add 3 (i : Int) 1 ⟨by omega, by omega⟩)] (by kernel_rfl)) (by
    exact rnd_run 1000 [pk (sl_len2 56 23 3 1 ((L).map (rowW true k)) ((L).length : Int) (by kernel_rfl) (by rw [List.length_map])), pk (b_lss 3 (L.length : Int) ((L).length : Int) false (decide_eq_false (by omega)))] (by kernel_rfl))
  exact sp_run (nt := 27) 1000 [pk (sl_len2 56 23 3 1 ((L).map (rowW true k)) ((L).length : Int) (by kernel_rfl) (by rw [List.length_map])), pk (sl_len2 56 23 3 1 ((L).map (rowW true j)) ((L).length : Int) (by kernel_rfl) (by rw [List.length_map])), pk (b_neq 3 ((L).length : Int) ((L).length : Int) false (decide_eq_true rfl)), pl (lo)] (by kernel_rfl)
theorem sameVecs_nil : Sp Try.prog I 38 [.one (.b (.lit (.slice none 0 0))), .one (.b (.lit (.slice none 0 0)))] (lb true) :=
  (sameVecs_sp (I := I) (k := 1) (j := 1) [] (by simp) (by simp)).wk ⟨nil_slI, nil_slI, trivial⟩

/-! ### Multiply -/
def mcd (n : Int) (L : List Ve) (y : Ve) : Int := if n < 0 ∨ 4096 < n then 5 else if mcode n L = 0 then vcode (L.length : Int) y else mcode n L
def mulv (n : Nat) (L : List Ve) (y : Ve) : Nat → Ve
  | 0 => []
  | i + 1 => spf (msum (mulv n L y i) (lvat L (vat y i).1.toNat) (vat y i).2) n
def mB (w : Nat) : Nat → Nat
  | 0 => 1
  | i + 1 => mB w i + w
theorem mB_eq (w i : Nat) : mB w i = w * i + 1 := by
  induction i with
  | zero => rfl
  | succ i ih => rw [mB, ih, Nat.mul_succ]; omega
theorem mulv_val {n : Nat} (hn : n ≤ 4096) (L : List Ve) (y : Ve) (i : Nat) : Val (n : Int) (mulv n L y i) := by
  cases i with
  | zero => exact ⟨by omega, fun i hi => by simp [mulv] at hi, fun i hi => by simp [mulv] at hi, fun i j _ hj => by simp [mulv] at hj, fun i hi => by simp [mulv] at hi⟩
  | succ i => exact spf_val _ hn
theorem vcode_nil (n : Int) : vcode n [] = if n < 0 ∨ 4096 < n then 5 else 0 := by unfold vcode; rfl

theorem mul_loop (n w : Nat) (L : List Ve) (y : Ve) (hn : n ≤ 4096) (hL : ∀ j, j < L.length → Val (n : Int) (lvat L j)) (hy : Val (L.length : Int) y) (hw : w = kk + k + 1) (hB : mB w y.length ≤ 100000) (hyl : y.length ≤ 1000000000) : LoopTr Try.prog I 58 (loopC Try.prog 34 1) ⟨[(13, .cv (.one (.b (.it (vecI true (mB w 0) (mulv n L y 0)))))), (0, .cv (.one (.b (.it (slI 1 ((L).map (rowW c k))))))), (41, .cv (.one (.b (.it (slI 5 ((y).map (rowV c' kk))))))), (42, .cv (.one (.b (.lit (.int .i64 (y.length : Int)))))), (43, .cv (.one (.b (.lit (.int .i64 ((0 : Nat) : Int))))))], [], 50⟩ (.exit 2) ⟨[(13, .cv (.one (.b (.it (vecI true (mB w y.length) (mulv n L y y.length))))))], [], 50⟩ := loop_up (by simp) (fun i => ⟨[(13, .cv (.one (.b (.it (vecI true (mB w i) (mulv n L y i)))))), (0, .cv (.one (.b (.it (slI 1 ((L).map (rowW c k))))))), (41, .cv (.one (.b (.it (slI 5 ((y).map (rowV c' kk))))))), (42, .cv (.one (.b (.lit (.int .i64 (y.length : Int)))))), (43, .cv (.one (.b (.lit (.int .i64 (i : Int))))))], [], 50⟩) y.length (fun i hi => by
    have g1 := hy.ge i hi
    have g2 := hy.lt i hi
    obtain ⟨d, hx⟩ : ∃ d : Nat, (vat y i).1 = (d : Int) := ⟨(vat y i).1.toNat, by omega⟩
    have hd : d < L.length := by omega
    have hm := mulv_val hn L y i
    have hv := hL d hd
    have b1 := hm.len
    have b2 := hv.len
    have hBi : mB w (i + 1) ≤ 100000 := by rw [mB_eq] at hB ⊢; have := Nat.mul_le_mul_left w (show i + 1 ≤ y.length from hi); omega
    have e : mB w (i + 1) = mB w i + kk + k + 1 := by show mB w i + w = _; omega
    have mg := merge_sp (I := I) (c := true) (c' := c) (c2 := c') (k := mB w i) (j := k) (kk := kk) n (mulv n L y i) (lvat L d) (vat y i).2 hm hv (by omega) (by omega) (by omega)
    rw [show spf (msum (mulv n L y i) (lvat L d) (vat y i).2) n = mulv n L y (i + 1) by rw [mulv, hx]; rfl, ← e] at mg
    exact rnd_run 1000 [pk (b_lss 3 (i : Int) (y.length : Int) true (decide_eq_true (by omega))), pk (sl_idx 23 41 5 ((y).map (rowV c' kk)) i (i : Int) ((rowV c' kk) (vat y i)) (by kernel_rfl) (by kernel_rfl) (by omega) (vat_row hi)), pk (sl_idx 56 23 1 ((L).map (rowW c k)) d ((vat y i).1) ((rowW c k) (lvat L d)) (by kernel_rfl) (by kernel_rfl) (by omega) (lvat_row hd)), po (mg), pk (b_add 3 (i : Int) 1 ⟨by omega, by omega⟩)] (by kernel_rfl)) (by
    exact rnd_run 1000 [pk (b_lss 3 (y.length : Int) (y.length : Int) false (decide_eq_false (by omega)))] (by kernel_rfl))
theorem rmul_loop (n w : Nat) (L : List Ve) (y : Ve) (hn : n ≤ 4096) (hL : ∀ j, j < L.length → Val (n : Int) (lvat L j)) (hy : Val (L.length : Int) y) (hw : w = 2 + kk + k + 1) (hB : mB w y.length ≤ 100000) (hyl : y.length ≤ 1000000000) : LoopTr Try.prog I 67 (loopC Try.prog 35 1) ⟨[(11, .cv (.one (.b (.it (vecI true (mB w 0) (mulv n L y 0)))))), (0, .cv (.one (.b (.it (slI 1 ((L).map (rowW c k))))))), (1, .cv (.one (.b (.it (slI 5 ((y).map (rowV c' kk))))))), (2, .cv (.one (.b (.lit (.int .i64 (n : Int)))))), (12, .cv (.one (.b (.lit (.int .i64 ((0 : Nat) : Int))))))], [], 50⟩ (.exit 2) ⟨[(11, .cv (.one (.b (.it (vecI true (mB w y.length) (mulv n L y y.length))))))], [], 50⟩ := loop_up (by simp) (fun i => ⟨[(11, .cv (.one (.b (.it (vecI true (mB w i) (mulv n L y i)))))), (0, .cv (.one (.b (.it (slI 1 ((L).map (rowW c k))))))), (1, .cv (.one (.b (.it (slI 5 ((y).map (rowV c' kk))))))), (2, .cv (.one (.b (.lit (.int .i64 (n : Int)))))), (12, .cv (.one (.b (.lit (.int .i64 (i : Int))))))], [], 50⟩) y.length (fun i hi => by
    have g1 := hy.ge i hi
    have g2 := hy.lt i hi
    obtain ⟨d, hx⟩ : ∃ d : Nat, (vat y i).1 = (d : Int) := ⟨(vat y i).1.toNat, by omega⟩
    have hd : d < L.length := by omega
    have hm := mulv_val hn L y i
    have hv := hL d hd
    have b1 := hm.len
    have b2 := hv.len
    have hBi : mB w (i + 1) ≤ 100000 := by rw [mB_eq] at hB ⊢; have := Nat.mul_le_mul_left w (show i + 1 ≤ y.length from hi); omega
    have e : mB w (i + 1) = mB w i + 2 + kk + k + 1 := by show mB w i + w = _; omega
    have bc : bcode (n : Int) (mulv n L y i) (lvat L d) = 0 := by unfold bcode; rw [if_pos (val_code hm), val_code hv]
    have mg := raddScaled_sp (I := I) (c := true) (c' := c) (c2 := c') (k := mB w i) (j := k) (kk := kk) n (mulv n L y i) (lvat L d) (vat y i).2 bc (by omega) (by omega) (by omega)
    rw [show spf (msum (mulv n L y i) (lvat L d) (vat y i).2) n = mulv n L y (i + 1) by rw [mulv, hx]; rfl, ← e] at mg
    exact rnd_run 1000 [pk (sl_len2 23 41 3 5 ((y).map (rowV c' kk)) ((y).length : Int) (by kernel_rfl) (by rw [List.length_map])), pk (b_lss 3 (i : Int) ((y).length : Int) true (decide_eq_true (by omega))), pk (sl_idx 23 41 5 ((y).map (rowV c' kk)) i (i : Int) ((rowV c' kk) (vat y i)) (by kernel_rfl) (by kernel_rfl) (by omega) (vat_row hi)), pk (sl_idx 56 23 1 ((L).map (rowW c k)) d ((vat y i).1) ((rowW c k) (lvat L d)) (by kernel_rfl) (by kernel_rfl) (by omega) (lvat_row hd)), pk (sl_idx 23 41 5 ((y).map (rowV c' kk)) i (i : Int) ((rowV c' kk) (vat y i)) (by kernel_rfl) (by kernel_rfl) (by omega) (vat_row hi)), po (mg), pk (b_add 3 (i : Int) 1 ⟨by omega, by omega⟩)] (by kernel_rfl)) (by
    exact rnd_run 1000 [pk (sl_len2 23 41 3 5 ((y).map (rowV c' kk)) ((y).length : Int) (by kernel_rfl) (by rw [List.length_map])), pk (b_lss 3 (y.length : Int) ((y).length : Int) false (decide_eq_false (by omega)))] (by kernel_rfl))
theorem mul_checks (n : Int) (L : List Ve) (y : Ve) (hk : k ≤ 200000) (hL : L.length ≤ 1000000000) (hM : ∀ v ∈ L, v.length ≤ 1000000000) : (mcode n L = 0 → LoopTr Try.prog I 58 (loopC Try.prog 34 0) ⟨[(0, .cv (.one (.b (.it (slI 1 ((L).map (rowW c k))))))), (1, .cv (.one (.b (.it (slI 5 ((y).map (rowV c' kk))))))), (2, .cv (.one (.b (.lit (.int .i64 n))))), (21, .cv (.one (.b (.it (slI 1 ((L).map (rowW c k))))))), (22, .cv (.one (.b (.lit (.int .i64 (L.length : Int)))))), (23, .cv (.one (.b (.lit (.int .i64 ((0 : Nat) : Int))))))], [], 50⟩ (.exit 0) ⟨[(0, .cv (.one (.b (.it (slI 1 ((L).map (rowW c k))))))), (1, .cv (.one (.b (.it (slI 5 ((y).map (rowV c' kk))))))), (2, .cv (.one (.b (.lit (.int .i64 n)))))], [], 50⟩) ∧ (mcode n L ≠ 0 → LoopTr Try.prog I 58 (loopC Try.prog 34 0) ⟨[(0, .cv (.one (.b (.it (slI 1 ((L).map (rowW c k))))))), (1, .cv (.one (.b (.it (slI 5 ((y).map (rowV c' kk))))))), (2, .cv (.one (.b (.lit (.int .i64 n))))), (21, .cv (.one (.b (.it (slI 1 ((L).map (rowW c k))))))), (22, .cv (.one (.b (.lit (.int .i64 (L.length : Int)))))), (23, .cv (.one (.b (.lit (.int .i64 ((0 : Nat) : Int))))))], [], 50⟩ .ret ⟨[(6, tlit (.slice none 0 0)), (7, li (mcode n L))], [], 50⟩) :=
  loop_find (fun j => vcode n (lvat L j)) L.length (fun j => ⟨[(0, .cv (.one (.b (.it (slI 1 ((L).map (rowW c k))))))), (1, .cv (.one (.b (.it (slI 5 ((y).map (rowV c' kk))))))), (2, .cv (.one (.b (.lit (.int .i64 n))))), (21, .cv (.one (.b (.it (slI 1 ((L).map (rowW c k))))))), (22, .cv (.one (.b (.lit (.int .i64 (L.length : Int)))))), (23, .cv (.one (.b (.lit (.int .i64 (j : Int))))))], [], 50⟩) (fun r => ⟨[(6, tlit (.slice none 0 0)), (7, li r)], [], 50⟩) (fun j hj hc => by
    have va := validate_sp (I := I) (c := c) (k := k) (lvat L j) n (by omega) (hM _ (lvat_mem hj))
    have hc : vcode n (lvat L j) = 0 := hc
    rw [hc] at va
    exact rnd_run 1000 [pk (b_lss 3 (j : Int) (L.length : Int) true (decide_eq_true (by omega))), pk (sl_idx 56 23 1 ((L).map (rowW c k)) j (j : Int) ((rowW c k) (lvat L j)) (by kernel_rfl) (by kernel_rfl) (by omega) (lvat_row hj)), po (va), ⟨.auto, trivial⟩, pk (b_add 3 (j : Int) 1 ⟨by omega, by omega⟩)] (by kernel_rfl)) (by
    exact rnd_run 1000 [pk (b_lss 3 (L.length : Int) (L.length : Int) false (decide_eq_false (by omega)))] (by kernel_rfl)) (fun j hj hc => by
    have va := validate_sp (I := I) (c := c) (k := k) (lvat L j) n (by omega) (hM _ (lvat_mem hj))
    show Rnd _ _ _ _ _ _ ⟨[(6, tlit (.slice none 0 0)), (7, li (vcode n (lvat L j)))], [], 50⟩
    have hc : ¬ vcode n (lvat L j) = 0 := hc
    generalize vcode n (lvat L j) = r at *
    exact rnd_run 1000 [pk (b_lss 3 (j : Int) (L.length : Int) true (decide_eq_true (by omega))), pk (sl_idx 56 23 1 ((L).map (rowW c k)) j (j : Int) ((rowW c k) (lvat L j)) (by kernel_rfl) (by kernel_rfl) (by omega) (lvat_row hj)), po (va), pk (b_neq 26 r 0 true (decide_eq_false (by omega)))] (by kernel_rfl))
theorem rmul_checks (n : Int) (L : List Ve) (y : Ve) (hk : k ≤ 200000) (hL : L.length ≤ 1000000000) (hM : ∀ v ∈ L, v.length ≤ 1000000000) : (mcode n L = 0 → LoopTr Try.prog I 67 (loopC Try.prog 35 0) ⟨[(0, .cv (.one (.b (.it (slI 1 ((L).map (rowW c k))))))), (1, .cv (.one (.b (.it (slI 5 ((y).map (rowV c' kk))))))), (2, .cv (.one (.b (.lit (.int .i64 n))))), (8, .cv (.one (.b (.lit (.int .i64 ((0 : Nat) : Int))))))], [], 50⟩ (.exit 0) ⟨[(0, .cv (.one (.b (.it (slI 1 ((L).map (rowW c k))))))), (1, .cv (.one (.b (.it (slI 5 ((y).map (rowV c' kk))))))), (2, .cv (.one (.b (.lit (.int .i64 n)))))], [], 50⟩) ∧ (mcode n L ≠ 0 → LoopTr Try.prog I 67 (loopC Try.prog 35 0) ⟨[(0, .cv (.one (.b (.it (slI 1 ((L).map (rowW c k))))))), (1, .cv (.one (.b (.it (slI 5 ((y).map (rowV c' kk))))))), (2, .cv (.one (.b (.lit (.int .i64 n))))), (8, .cv (.one (.b (.lit (.int .i64 ((0 : Nat) : Int))))))], [], 50⟩ .ret ⟨[(6, tlit (.slice none 0 0)), (7, li (mcode n L))], [], 50⟩) :=
  loop_find (fun j => vcode n (lvat L j)) L.length (fun j => ⟨[(0, .cv (.one (.b (.it (slI 1 ((L).map (rowW c k))))))), (1, .cv (.one (.b (.it (slI 5 ((y).map (rowV c' kk))))))), (2, .cv (.one (.b (.lit (.int .i64 n))))), (8, .cv (.one (.b (.lit (.int .i64 (j : Int))))))], [], 50⟩) (fun r => ⟨[(6, tlit (.slice none 0 0)), (7, li r)], [], 50⟩) (fun j hj hc => by
    have va := rvalidate_sp (I := I) (c := c) (k := k) (lvat L j) n (by omega) (hM _ (lvat_mem hj))
    have hc : vcode n (lvat L j) = 0 := hc
    rw [hc] at va
    exact rnd_run 1000 [pk (sl_len2 56 23 3 1 ((L).map (rowW c k)) ((L).length : Int) (by kernel_rfl) (by rw [List.length_map])), pk (b_lss 3 (j : Int) ((L).length : Int) true (decide_eq_true (by omega))), pk (sl_idx 56 23 1 ((L).map (rowW c k)) j (j : Int) ((rowW c k) (lvat L j)) (by kernel_rfl) (by kernel_rfl) (by omega) (lvat_row hj)), po (va), ⟨.auto, trivial⟩, pk (b_add 3 (j : Int) 1 ⟨by omega, by omega⟩)] (by kernel_rfl)) (by
    exact rnd_run 1000 [pk (sl_len2 56 23 3 1 ((L).map (rowW c k)) ((L).length : Int) (by kernel_rfl) (by rw [List.length_map])), pk (b_lss 3 (L.length : Int) ((L).length : Int) false (decide_eq_false (by omega)))] (by kernel_rfl)) (fun j hj hc => by
    have va := rvalidate_sp (I := I) (c := c) (k := k) (lvat L j) n (by omega) (hM _ (lvat_mem hj))
    show Rnd _ _ _ _ _ _ ⟨[(6, tlit (.slice none 0 0)), (7, li (vcode n (lvat L j)))], [], 50⟩
    have hc : ¬ vcode n (lvat L j) = 0 := hc
    generalize vcode n (lvat L j) = r at *
    exact rnd_run 1000 [pk (sl_len2 56 23 3 1 ((L).map (rowW c k)) ((L).length : Int) (by kernel_rfl) (by rw [List.length_map])), pk (b_lss 3 (j : Int) ((L).length : Int) true (decide_eq_true (by omega))), pk (sl_idx 56 23 1 ((L).map (rowW c k)) j (j : Int) ((rowW c k) (lvat L j)) (by kernel_rfl) (by kernel_rfl) (by omega) (lvat_row hj)), po (va), pk (b_neq 26 r 0 true (decide_eq_false (by omega)))] (by kernel_rfl))
theorem mcd_zero {n : Int} {L : List Ve} {y : Ve} (h : mcd n L y = 0) : 0 ≤ n ∧ n ≤ 4096 ∧ mcode n L = 0 ∧ vcode (L.length : Int) y = 0 := by
  unfold mcd at h
  by_cases h1 : n < 0 ∨ 4096 < n
  · rw [if_pos h1] at h; omega
  · rw [if_neg h1] at h
    by_cases h2 : mcode n L = 0
    · rw [if_pos h2] at h; exact ⟨by omega, by omega, h2, h⟩
    · rw [if_neg h2] at h; exact absurd h h2
theorem multiply_sp (n : Nat) (L : List Ve) (y : Ve) (h0 : mcd (n : Int) L y = 0) (hk : k ≤ 100000) (hkk : kk ≤ 100000) (hB : mB (kk + k + 1) y.length ≤ 100000) (hM : ∀ v ∈ L, v.length ≤ 1000000000) (hL : L.length ≤ 1000000000) (hyl : y.length ≤ 1000000000) : Sp Try.prog I 34 [.one (.b (.it (matI c k L))), .one (.b (.it (vecI c' kk y))), ci (n : Int)] (.tu [.one (.b (.it (vecI true (mB (kk + k + 1) y.length) (mulv n L y y.length)))), ci 0]) := by
  obtain ⟨g1, g2, g3, g4⟩ := mcd_zero h0
  have hv : ∀ j, j < L.length → Val (n : Int) (lvat L j) := fun j hj => val_of (mcode_zero g3 j hj)
  have v0 := (validate_sp (I := I) (c := true) (k := 1) [] (n : Int) (by omega) (by simp)).wk (args' := [.one (.b (.lit (.slice none 0 0))), ci (n : Int)]) ⟨nil_slI, CTle.refl, trivial⟩
  rw [vcode_nil, if_neg (by omega)] at v0
  have vy := validate_sp (I := I) (c := c') (k := kk) y (L.length : Int) (by omega) hyl
  rw [g4] at vy
  have lo1 := (mul_checks (I := I) (c := c) (c' := c') (k := k) (kk := kk) (n : Int) L y (by omega) hL hM).1 g3
  have lo2 := mul_loop (I := I) (c := c) (c' := c') (k := k) (kk := kk) n (kk + k + 1) L y (by omega) hv (val_of g4) rfl hB hyl
  generalize kk + k + 1 = w at *
  have lo2 := LoopTr.pre (show Leads I 58 ⟨[(13, tlit (.slice none 0 0)), (0, tit (matI c k L)), (41, tit (vecI c' kk y)), (42, li y.length), (43, li 0)], [], 90⟩ ⟨[(13, tit (vecI true (mB w 0) (mulv n L y 0))), (0, tit (matI c k L)), (41, tit (vecI c' kk y)), (42, li y.length), (43, li 0)], [], 90⟩ from weak_leads ⟨rfl, nil_slI.tv, rfl, TVle.refl, rfl, TVle.refl, rfl, TVle.refl, rfl, TVle.refl, trivial⟩ trivial) (LoopTr.pre (cut_leads (nx' := 50) rfl rfl) lo2)
  exact sp_run (nt := 58) 1000 [po (v0), ⟨.auto, trivial⟩, pk (sl_len2 56 23 3 1 ((L).map (rowW c k)) ((L).length : Int) (by kernel_rfl) (by rw [List.length_map])), pl (lo1), pk (sl_len2 56 23 3 1 ((L).map (rowW c k)) ((L).length : Int) (by kernel_rfl) (by rw [List.length_map])), po (vy), ⟨.auto, trivial⟩, pk (sl_len2 23 41 3 5 ((y).map (rowV c' kk)) ((y).length : Int) (by kernel_rfl) (by rw [List.length_map])), pl (lo2)] (by kernel_rfl)
theorem rmultiply_sp (n : Nat) (L : List Ve) (y : Ve) (h0 : mcd (n : Int) L y = 0) (hk : k ≤ 100000) (hkk : kk ≤ 100000) (hB : mB (2 + kk + k + 1) y.length ≤ 100000) (hM : ∀ v ∈ L, v.length ≤ 1000000000) (hL : L.length ≤ 1000000000) (hyl : y.length ≤ 1000000000) : Sp Try.prog I 35 [.one (.b (.it (matI c k L))), .one (.b (.it (vecI c' kk y))), ci (n : Int)] (.tu [.one (.b (.it (vecI true (mB (2 + kk + k + 1) y.length) (mulv n L y y.length)))), ci 0]) := by
  obtain ⟨g1, g2, g3, g4⟩ := mcd_zero h0
  have hv : ∀ j, j < L.length → Val (n : Int) (lvat L j) := fun j hj => val_of (mcode_zero g3 j hj)
  have vy := rvalidate_sp (I := I) (c := c') (k := kk) y (L.length : Int) (by omega) hyl
  rw [g4] at vy
  have lo1 := (rmul_checks (I := I) (c := c) (c' := c') (k := k) (kk := kk) (n : Int) L y (by omega) hL hM).1 g3
  have lo2 := rmul_loop (I := I) (c := c) (c' := c') (k := k) (kk := kk) n (2 + kk + k + 1) L y (by omega) hv (val_of g4) rfl hB hyl
  generalize 2 + kk + k + 1 = w at *
  have lo2 := LoopTr.pre (show Leads I 67 ⟨[(11, tlit (.slice none 0 0)), (0, tit (matI c k L)), (1, tit (vecI c' kk y)), (2, li n), (12, li 0)], [], 90⟩ ⟨[(11, tit (vecI true (mB w 0) (mulv n L y 0))), (0, tit (matI c k L)), (1, tit (vecI c' kk y)), (2, li n), (12, li 0)], [], 90⟩ from weak_leads ⟨rfl, nil_slI.tv, rfl, TVle.refl, rfl, TVle.refl, rfl, TVle.refl, rfl, TVle.refl, trivial⟩ trivial) (LoopTr.pre (cut_leads (nx' := 50) rfl rfl) lo2)
  exact sp_run (nt := 67) 1000 [pk (b_lss 3 (n : Int) 0 false (decide_eq_false (by omega))), pk (b_gtr 3 (n : Int) 4096 false (decide_eq_false (by omega))), pl (lo1), pk (sl_len2 56 23 3 1 ((L).map (rowW c k)) ((L).length : Int) (by kernel_rfl) (by rw [List.length_map])), po (vy), ⟨.auto, trivial⟩, pl (lo2)] (by kernel_rfl)
theorem multiply_err (n : Int) (r : Int) (L : List Ve) (y : Ve) (h0 : mcd n L y = r) (hr : ¬ r = 0) (hk : k ≤ 100000) (hkk : kk ≤ 100000) (hM : ∀ v ∈ L, v.length ≤ 1000000000) (hL : L.length ≤ 1000000000) (hyl : y.length ≤ 1000000000) : Sp Try.prog I 34 [.one (.b (.it (matI c k L))), .one (.b (.it (vecI c' kk y))), ci n] (.tu [.one (.b (.lit (.slice none 0 0))), ci r]) := by
  have v0 := (validate_sp (I := I) (c := true) (k := 1) [] n (by omega) (by simp)).wk (args' := [.one (.b (.lit (.slice none 0 0))), ci n]) ⟨nil_slI, CTle.refl, trivial⟩
  rw [vcode_nil] at v0
  unfold mcd at h0
  by_cases h1 : n < 0 ∨ 4096 < n
  · rw [if_pos h1] at h0 v0
    subst h0
    exact sp_run (nt := 58) 1000 [po (v0), ⟨.auto, trivial⟩] (by kernel_rfl)
  · rw [if_neg h1] at h0 v0
    have ck := mul_checks (I := I) (c := c) (c' := c') (k := k) (kk := kk) n L y (by omega) hL hM
    by_cases h2 : mcode n L = 0
    · rw [if_pos h2] at h0
      have lo1 := ck.1 h2
      have vy := validate_sp (I := I) (c := c') (k := kk) y (L.length : Int) (by omega) hyl
      rw [h0] at vy
      exact sp_run (nt := 58) 1000 [po (v0), ⟨.auto, trivial⟩, pk (sl_len2 56 23 3 1 ((L).map (rowW c k)) ((L).length : Int) (by kernel_rfl) (by rw [List.length_map])), pl (lo1), pk (sl_len2 56 23 3 1 ((L).map (rowW c k)) ((L).length : Int) (by kernel_rfl) (by rw [List.length_map])), po (vy), pk (b_neq 26 r 0 true (decide_eq_false (by omega)))] (by kernel_rfl)
    · rw [if_neg h2] at h0
      have lo1 := ck.2 h2
      rw [h0] at lo1
      exact sp_run (nt := 58) 1000 [po (v0), ⟨.auto, trivial⟩, pk (sl_len2 56 23 3 1 ((L).map (rowW c k)) ((L).length : Int) (by kernel_rfl) (by rw [List.length_map])), pl (lo1)] (by kernel_rfl)
theorem rmultiply_err (n : Int) (r : Int) (L : List Ve) (y : Ve) (h0 : mcd n L y = r) (hr : ¬ r = 0) (hk : k ≤ 100000) (hkk : kk ≤ 100000) (hM : ∀ v ∈ L, v.length ≤ 1000000000) (hL : L.length ≤ 1000000000) (hyl : y.length ≤ 1000000000) : Sp Try.prog I 35 [.one (.b (.it (matI c k L))), .one (.b (.it (vecI c' kk y))), ci n] (.tu [.one (.b (.lit (.slice none 0 0))), ci r]) := by
  unfold mcd at h0
  by_cases h1 : n < 0
  · rw [if_pos (.inl h1)] at h0
    subst h0
    exact sp_run (nt := 67) 1000 [pk (b_lss 3 n 0 true (decide_eq_true (by omega)))] (by kernel_rfl)
  · by_cases h3 : 4096 < n
    · rw [if_pos (.inr h3)] at h0
      subst h0
      exact sp_run (nt := 67) 1000 [pk (b_lss 3 n 0 false (decide_eq_false (by omega))), pk (b_gtr 3 n 4096 true (decide_eq_true (by omega)))] (by kernel_rfl)
    · rw [if_neg (by omega)] at h0
      have ck := rmul_checks (I := I) (c := c) (c' := c') (k := k) (kk := kk) n L y (by omega) hL hM
      by_cases h2 : mcode n L = 0
      · rw [if_pos h2] at h0
        have lo1 := ck.1 h2
        have vy := rvalidate_sp (I := I) (c := c') (k := kk) y (L.length : Int) (by omega) hyl
        rw [h0] at vy
        exact sp_run (nt := 67) 1000 [pk (b_lss 3 n 0 false (decide_eq_false (by omega))), pk (b_gtr 3 n 4096 false (decide_eq_false (by omega))), pl (lo1), pk (sl_len2 56 23 3 1 ((L).map (rowW c k)) ((L).length : Int) (by kernel_rfl) (by rw [List.length_map])), po (vy), pk (b_neq 26 r 0 true (decide_eq_false (by omega)))] (by kernel_rfl)
      · rw [if_neg h2] at h0
        have lo1 := ck.2 h2
        rw [h0] at lo1
        exact sp_run (nt := 67) 1000 [pk (b_lss 3 n 0 false (decide_eq_false (by omega))), pk (b_gtr 3 n 4096 false (decide_eq_false (by omega))), pl (lo1)] (by kernel_rfl)
end
end Go.Proofs.Ytpampkliahopdaa

/- Walk of SparseMatrix. -/
namespace Go.Proofs.Ytpampkliahopdaa
open Go Go.RowKit
set_option linter.unusedVariables false
set_option linter.unusedSimpArgs false

abbrev ll (L : List (List Eg)) : List Ve := L.map vv
theorem ll_len (L : List (List Eg)) : (ll L).length = L.length := by simp
abbrev MemL (L : List (List Eg)) : Prop := (∀ v ∈ L, MemV v) ∧ L.length ≤ 35184372087808
structure OkL (L : List (List Eg)) : Prop where
  len : L.length ≤ 20
  ok : ∀ v ∈ L, OkV v
theorem OkL.le {L : List (List Eg)} (h : OkL L) : CTle (.one (.b (.it (slI 1 (L.map rowM))))) (.one (.b (.it (matI false 12 (ll L))))) :=
  (slI_map vv fun v hv => I0le.cons (vec_le (h.ok v hv).ok (h.ok v hv).mem).x0 I0le.refl).x.one
theorem OkL.short {L : List (List Eg)} (h : OkL L) : ∀ v ∈ ll L, v.length ≤ 60 := by
  intro v hv
  obtain ⟨u, hu, rfl⟩ := List.mem_map.1 hv
  rw [vv_len]
  exact (h.ok u hu).len
theorem lightL_cases {I : WInv} (L : List (List Eg)) (h : MemL L) : ∃ b, Sp Try.prog I 10 [.one (.b (.it (slI 1 (L.map rowM))))] (lb b) ∧ (b = true → OkL L) := by
  refine ⟨_, light3_sp (I := I) L h.1 h.2, fun hb => ?_⟩
  obtain ⟨h1, h2⟩ := light_ok hb h.1
  exact ⟨h1, fun v hv => ⟨(h2 v hv).1, (h2 v hv).2, h.1 v hv⟩⟩
theorem tra_short {L : List Ve} {n : Nat} (h : L.length ≤ 60) : ∀ v ∈ tra L n, v.length ≤ 1000000000 := by
  intro v hv
  obtain ⟨r, _, rfl⟩ := List.mem_map.1 hv
  have := spf_len (fun j => atq (lvat L j) (r : Int)) L.length
  omega
theorem tra_len (L : List Ve) (n : Nat) : (tra L n).length = n := by simp [tra]

section
variable {I : WInv}
theorem matrix_law (L : List (List Eg)) (y : List Eg) (n : Int) (hL : MemL L) (hy : MemV y) : Sp Try.prog I 8 [.one (.b (.it (slI 1 (L.map rowM)))), .one (.b (.it (vgI y))), ci n] (lb true) := by
  obtain ⟨b1, l1, ok1⟩ := lightL_cases (I := I) L hL
  obtain ⟨b2, l2, ok2⟩ := light1_cases (I := I) y hy
  have l3 := small_sp (I := I) n
  cases b1 with
  | false => exact sp_run (nt := 77) 1000 [po (l1), ⟨.auto, trivial⟩, po (awakev_sp)] (by kernel_rfl)
  | true =>
    have k1 := ok1 rfl
    cases b2 with
    | false => exact sp_run (nt := 77) 1000 [po (l1), ⟨.auto, trivial⟩, pk (bsM1 y), po (l2), ⟨.auto, trivial⟩, po (awakev_sp)] (by kernel_rfl)
    | true =>
      have k2 := ok2 rfl
      cases hs : smallB n with
      | false =>
        rw [hs] at l3
        exact sp_run (nt := 77) 1000 [po (l1), ⟨.auto, trivial⟩, pk (bsM1 y), po (l2), ⟨.auto, trivial⟩, po (l3), ⟨.auto, trivial⟩, po (awakev_sp)] (by kernel_rfl)
      | true =>
        rw [hs] at l3
        have n1 : (ll L).length ≤ 20 := by rw [ll_len]; exact k1.len
        have n2 : (vv y).length ≤ 60 := by rw [vv_len]; exact k2.len
        have hM : ∀ v ∈ ll L, v.length ≤ 1000000000 := fun v hv => by have := k1.short v hv; omega
        have B1 : mB (12 + 12 + 1) (vv y).length ≤ 100000 := by rw [mB_eq]; omega
        have B2 : mB (2 + 12 + 12 + 1) (vv y).length ≤ 100000 := by rw [mB_eq]; omega
        by_cases h0 : tcode n (ll L) = 0
        · obtain ⟨g1, g2, g3, g4⟩ := tcode_zero h0
          obtain ⟨m, rfl, hm⟩ : ∃ m : Nat, n = (m : Int) ∧ m ≤ 60 := ⟨n.toNat, by omega, by have := small_ok hs; omega⟩
          have t1 := transpose_sp (I := I) (c := false) (k := 12) m (ll L) h0 (by omega) hM
          have t2 := rtranspose_sp (I := I) (c := false) (k := 12) m (ll L) h0 (by omega) hM
          have e2 := sameVecs_sp (I := I) (k := 12) (j := 12) (tra (ll L) m) (by rw [tra_len]; omega) (tra_short (by omega))
          by_cases h1 : mcd (m : Int) (ll L) (vv y) = 0
          · have m1 := multiply_sp (I := I) (c := false) (c' := false) (k := 12) (kk := 12) m (ll L) (vv y) h1 (by omega) (by omega) B1 hM (by omega) (by omega)
            have m2 := rmultiply_sp (I := I) (c := false) (c' := false) (k := 12) (kk := 12) m (ll L) (vv y) h1 (by omega) (by omega) B2 hM (by omega) (by omega)
            have hmv := (mulv_val (n := m) (by omega) (ll L) (vv y) (vv y).length).len
            have e1 := samev_sp (I := I) (k := mB (12 + 12 + 1) (vv y).length) (j := mB (2 + 12 + 12 + 1) (vv y).length) (mulv m (ll L) (vv y) (vv y).length) (by omega)
            exact sp_run (nt := 77) 1000 [po (l1), ⟨.auto, trivial⟩, pk (bsM1 y), po (l2), ⟨.auto, trivial⟩, po (l3), ⟨.auto, trivial⟩, pm ((show Leads I _ ⟨[(0, .cv (.one (.b (.it (slI 1 (L.map rowM)))))), (1, .cv (.one (.b (.it (vgI y))))), (2, .cv (.one (.b (.lit (.int .i64 (m : Int)))))), (6, .cv (.one (.b (.lit (.bool false))))), (16, .cv (.one (.b (.lit (.bool true))))), (17, .cv (.one (.b (.lit (.bool false))))), (18, .cv (.one (.b (.lit (.bool false))))), (21, .cv (.one (.b (.lit (.bool true))))), (22, .cv (.one (.b (.lit (.bool false))))), (23, .cv (.one (.b (.lit (.bool false))))), (24, .cv (.one (.b (.lit (.bool false))))), (26, .cv (.one (.b (.lit (.bool true))))), (27, .cv (.one (.b (.lit (.bool false))))), (28, .cv (.one (.b (.lit (.bool false)))))], [], 15⟩ ⟨[(0, .cv (.one (.b (.it (matI false 12 (ll L)))))), (1, .cv (.one (.b (.it (vecI false 12 (vv y)))))), (2, .cv (.one (.b (.lit (.int .i64 (m : Int)))))), (6, .cv (.one (.b (.lit (.bool false))))), (16, .cv (.one (.b (.lit (.bool true))))), (17, .cv (.one (.b (.lit (.bool false))))), (18, .cv (.one (.b (.lit (.bool false))))), (21, .cv (.one (.b (.lit (.bool true))))), (22, .cv (.one (.b (.lit (.bool false))))), (23, .cv (.one (.b (.lit (.bool false))))), (24, .cv (.one (.b (.lit (.bool false))))), (26, .cv (.one (.b (.lit (.bool true))))), (27, .cv (.one (.b (.lit (.bool false))))), (28, .cv (.one (.b (.lit (.bool false)))))], [], 15⟩ from weak_leads ⟨rfl, k1.le.tv, rfl, k2.le.tv, rfl, TVle.refl, rfl, TVle.refl, rfl, TVle.refl, rfl, TVle.refl, rfl, TVle.refl, rfl, TVle.refl, rfl, TVle.refl, rfl, TVle.refl, rfl, TVle.refl, rfl, TVle.refl, rfl, TVle.refl, rfl, TVle.refl, trivial⟩ trivial)), po (m1), po (m2), po (t1), po (t2), ⟨.auto, trivial⟩, po (e1), ⟨.auto, trivial⟩, po (e2), po (awakev_sp)] (by kernel_rfl)
          · obtain ⟨r, hr⟩ : ∃ r, mcd (m : Int) (ll L) (vv y) = r := ⟨_, rfl⟩
            rw [hr] at h1
            have m1 := multiply_err (I := I) (c := false) (c' := false) (k := 12) (kk := 12) (m : Int) r (ll L) (vv y) hr h1 (by omega) (by omega) hM (by omega) (by omega)
            have m2 := rmultiply_err (I := I) (c := false) (c' := false) (k := 12) (kk := 12) (m : Int) r (ll L) (vv y) hr h1 (by omega) (by omega) hM (by omega) (by omega)
            exact sp_run (nt := 77) 1000 [po (l1), ⟨.auto, trivial⟩, pk (bsM1 y), po (l2), ⟨.auto, trivial⟩, po (l3), ⟨.auto, trivial⟩, pm ((show Leads I _ ⟨[(0, .cv (.one (.b (.it (slI 1 (L.map rowM)))))), (1, .cv (.one (.b (.it (vgI y))))), (2, .cv (.one (.b (.lit (.int .i64 (m : Int)))))), (6, .cv (.one (.b (.lit (.bool false))))), (16, .cv (.one (.b (.lit (.bool true))))), (17, .cv (.one (.b (.lit (.bool false))))), (18, .cv (.one (.b (.lit (.bool false))))), (21, .cv (.one (.b (.lit (.bool true))))), (22, .cv (.one (.b (.lit (.bool false))))), (23, .cv (.one (.b (.lit (.bool false))))), (24, .cv (.one (.b (.lit (.bool false))))), (26, .cv (.one (.b (.lit (.bool true))))), (27, .cv (.one (.b (.lit (.bool false))))), (28, .cv (.one (.b (.lit (.bool false)))))], [], 15⟩ ⟨[(0, .cv (.one (.b (.it (matI false 12 (ll L)))))), (1, .cv (.one (.b (.it (vecI false 12 (vv y)))))), (2, .cv (.one (.b (.lit (.int .i64 (m : Int)))))), (6, .cv (.one (.b (.lit (.bool false))))), (16, .cv (.one (.b (.lit (.bool true))))), (17, .cv (.one (.b (.lit (.bool false))))), (18, .cv (.one (.b (.lit (.bool false))))), (21, .cv (.one (.b (.lit (.bool true))))), (22, .cv (.one (.b (.lit (.bool false))))), (23, .cv (.one (.b (.lit (.bool false))))), (24, .cv (.one (.b (.lit (.bool false))))), (26, .cv (.one (.b (.lit (.bool true))))), (27, .cv (.one (.b (.lit (.bool false))))), (28, .cv (.one (.b (.lit (.bool false)))))], [], 15⟩ from weak_leads ⟨rfl, k1.le.tv, rfl, k2.le.tv, rfl, TVle.refl, rfl, TVle.refl, rfl, TVle.refl, rfl, TVle.refl, rfl, TVle.refl, rfl, TVle.refl, rfl, TVle.refl, rfl, TVle.refl, rfl, TVle.refl, rfl, TVle.refl, rfl, TVle.refl, rfl, TVle.refl, trivial⟩ trivial)), po (m1), po (m2), po (t1), po (t2), pk (b_eql 26 r r true (decide_eq_true rfl)), po (samev_nil), ⟨.auto, trivial⟩, po (e2), po (awakev_sp)] (by kernel_rfl)
        · have h1 : ¬ mcd n (ll L) (vv y) = 0 := fun h => h0 (by
            obtain ⟨g1, g2, g3, g4⟩ := mcd_zero h
            unfold tcode
            rw [if_neg (by omega)]
            exact g3)
          obtain ⟨r, hr⟩ : ∃ r, mcd n (ll L) (vv y) = r := ⟨_, rfl⟩
          obtain ⟨q, hq⟩ : ∃ q, tcode n (ll L) = q := ⟨_, rfl⟩
          rw [hr] at h1
          rw [hq] at h0
          have m1 := multiply_err (I := I) (c := false) (c' := false) (k := 12) (kk := 12) n r (ll L) (vv y) hr h1 (by omega) (by omega) hM (by omega) (by omega)
          have m2 := rmultiply_err (I := I) (c := false) (c' := false) (k := 12) (kk := 12) n r (ll L) (vv y) hr h1 (by omega) (by omega) hM (by omega) (by omega)
          have t1 := transpose_err (I := I) (c := false) (k := 12) n q (ll L) hq h0 (by omega) (by omega) hM
          have t2 := rtranspose_err (I := I) (c := false) (k := 12) n q (ll L) hq h0 (by omega) (by omega) hM
          exact sp_run (nt := 77) 1000 [po (l1), ⟨.auto, trivial⟩, pk (bsM1 y), po (l2), ⟨.auto, trivial⟩, po (l3), ⟨.auto, trivial⟩, pm ((show Leads I _ ⟨[(0, .cv (.one (.b (.it (slI 1 (L.map rowM)))))), (1, .cv (.one (.b (.it (vgI y))))), (2, .cv (.one (.b (.lit (.int .i64 n))))), (6, .cv (.one (.b (.lit (.bool false))))), (16, .cv (.one (.b (.lit (.bool true))))), (17, .cv (.one (.b (.lit (.bool false))))), (18, .cv (.one (.b (.lit (.bool false))))), (21, .cv (.one (.b (.lit (.bool true))))), (22, .cv (.one (.b (.lit (.bool false))))), (23, .cv (.one (.b (.lit (.bool false))))), (24, .cv (.one (.b (.lit (.bool false))))), (26, .cv (.one (.b (.lit (.bool true))))), (27, .cv (.one (.b (.lit (.bool false))))), (28, .cv (.one (.b (.lit (.bool false)))))], [], 15⟩ ⟨[(0, .cv (.one (.b (.it (matI false 12 (ll L)))))), (1, .cv (.one (.b (.it (vecI false 12 (vv y)))))), (2, .cv (.one (.b (.lit (.int .i64 n))))), (6, .cv (.one (.b (.lit (.bool false))))), (16, .cv (.one (.b (.lit (.bool true))))), (17, .cv (.one (.b (.lit (.bool false))))), (18, .cv (.one (.b (.lit (.bool false))))), (21, .cv (.one (.b (.lit (.bool true))))), (22, .cv (.one (.b (.lit (.bool false))))), (23, .cv (.one (.b (.lit (.bool false))))), (24, .cv (.one (.b (.lit (.bool false))))), (26, .cv (.one (.b (.lit (.bool true))))), (27, .cv (.one (.b (.lit (.bool false))))), (28, .cv (.one (.b (.lit (.bool false)))))], [], 15⟩ from weak_leads ⟨rfl, k1.le.tv, rfl, k2.le.tv, rfl, TVle.refl, rfl, TVle.refl, rfl, TVle.refl, rfl, TVle.refl, rfl, TVle.refl, rfl, TVle.refl, rfl, TVle.refl, rfl, TVle.refl, rfl, TVle.refl, rfl, TVle.refl, rfl, TVle.refl, rfl, TVle.refl, trivial⟩ trivial)), po (m1), po (m2), po (t1), po (t2), pk (b_eql 26 r r true (decide_eq_true rfl)), po (samev_nil), pk (b_eql 26 q q true (decide_eq_true rfl)), po (sameVecs_nil), po (awakev_sp)] (by kernel_rfl)
theorem law_SparseMatrix (w : World) {u v : Value} {L : List (List Eg)} {y : List Eg} (h1 : AVecs w u L) (h2 : AVec w v y) (n : Int) (wn : (Lit.int .i64 n).wf = true) : Calls Try.prog 8 #[u, v, .int .i64 n] w (RetV w (.bool true)) :=
  law_any (I := WInv.none) (matrix_law L y n ⟨h1.1, h1.2.1⟩ h2.1) trivial ⟨_, _, rfl, h1.2.2, _, _, rfl, h2.2, _, _, rfl, rfl, rfl⟩
end
end Go.Proofs.Ytpampkliahopdaa

/- Walk of SparseAdjoint. -/
namespace Go.Proofs.Ytpampkliahopdaa
open Go Go.RowKit
set_option linter.unusedVariables false
set_option linter.unusedSimpArgs false

/-! ### the plain law -/
def gsum (x : Ve) (g : Int → Rat) : Nat → Rat
  | 0 => 0
  | i + 1 => gsum x g i + (vat x i).2 * g (vat x i).1
theorem dsum_gsum (a b : Ve) : ∀ i, dsum a b i = gsum a (atq b) i
  | 0 => rfl
  | i + 1 => by rw [dsum, gsum, dsum_gsum a b i]
theorem gsum_sum {n : Nat} {a : Ve} (hn : n ≤ 4096) (ha : Val (n : Int) a) (g : Int → Rat) : gsum a g a.length = sumr n fun x => atq a (x : Int) * g (x : Int) := by
  have e : ∀ i, i ≤ a.length → gsum a g i = gsum a (atq (spf (fun x => g (x : Int)) n)) i := by
    intro i
    induction i with
    | zero => intro _; rfl
    | succ i ih =>
      intro hi
      have g1 := ha.ge i hi
      have g2 := ha.lt i hi
      obtain ⟨x, hx⟩ : ∃ x : Nat, (vat a i).1 = (x : Int) := ⟨(vat a i).1.toNat, by omega⟩
      rw [gsum, gsum, ih (by omega), hx, spf_at hn (show x < n by omega)]
  rw [e _ (Nat.le_refl _), ← dsum_gsum, dsum_sum ha]
  exact sumr_congr fun i hi => by rw [spf_at hn hi]
theorem sumr_comm (f : Nat → Nat → Rat) (m : Nat) : ∀ n, sumr n (fun r => sumr m fun j => f r j) = sumr m fun j => sumr n fun r => f r j
  | 0 => (sumr_zero m).symm
  | n + 1 => by
    rw [sumr, sumr_comm f m n, ← sumr_add]
    rfl
theorem mulv_eq {n : Nat} (hn : n ≤ 4096) (L : List Ve) (y : Ve) : ∀ i, mulv n L y i = spf (fun r => gsum y (fun t => atq (lvat L t.toNat) (r : Int)) i) n
  | 0 => by
    rw [mulv]
    exact (spf_skip (Nat.zero_le n) fun r _ _ => rfl).symm
  | i + 1 => by
    rw [mulv]
    refine spf_congr fun r hr => ?_
    unfold msum
    rw [mulv_eq hn L y i, spf_at hn hr]
    rfl
theorem mulv_at {n : Nat} (hn : n ≤ 4096) {L : List Ve} {y : Ve} (hL : L.length ≤ 4096) (hy : Val (L.length : Int) y) {r : Nat} (hr : r < n) : atq (mulv n L y y.length) (r : Int) = sumr L.length fun j => atq y (j : Int) * atq (lvat L j) (r : Int) := by
  rw [mulv_eq hn, spf_at hn hr, gsum_sum hL hy]
  rfl
theorem lvat_tra {L : List Ve} {n r : Nat} (hr : r < n) : lvat (tra L n) r = spf (fun j => atq (lvat L j) (r : Int)) L.length := by
  unfold lvat tra
  rw [List.getD_eq_getElem?_getD, range_some hr]; rfl
theorem tra_tra {L : List Ve} {n : Nat} (hn : n ≤ 4096) (hm : L.length ≤ 4096) (hL : ∀ j, j < L.length → Val (n : Int) (lvat L j)) : tra (tra L n) L.length = L := by
  apply List.ext_getElem?
  intro j
  by_cases hj : j < L.length
  · have h1 : (tra (tra L n) L.length)[j]? = some (spf (fun r => atq (lvat (tra L n) r) (j : Int)) (tra L n).length) := range_some hj
    rw [h1, List.getElem?_eq_getElem hj, ← lvat_get hj, tra_len]
    congr 1
    rw [← spf_self (hL j hj)]
    refine spf_congr fun r hr => ?_
    rw [lvat_tra hr, spf_at hm hj]
  · rw [List.getElem?_eq_none (by rw [tra_len]; omega), List.getElem?_eq_none (by omega)]
theorem adj_eq {L : List Ve} {n : Nat} {x y : Ve} (hn : n ≤ 4096) (hm : L.length ≤ 4096) (hL : ∀ j, j < L.length → Val (n : Int) (lvat L j)) (hx : Val (L.length : Int) x) (hy : Val (n : Int) y) :
    dsum y (mulv n L x x.length) y.length = dsum (mulv L.length (tra L n) y y.length) x (mulv L.length (tra L n) y y.length).length := by
  have hq : Val (L.length : Int) (mulv L.length (tra L n) y y.length) := mulv_val hm _ _ _
  rw [dsum_sum hy, dsum_sum hq]
  have e1 : sumr n (fun r => atq y (r : Int) * atq (mulv n L x x.length) (r : Int)) = sumr n (fun r => sumr L.length fun j => atq y (r : Int) * (atq x (j : Int) * atq (lvat L j) (r : Int))) := sumr_congr fun r hr => by
    rw [mulv_at hn hm hx hr, sumr_mul]
  have e2 : sumr L.length (fun j => atq (mulv L.length (tra L n) y y.length) (j : Int) * atq x (j : Int)) = sumr L.length (fun j => sumr n fun r => atq y (r : Int) * (atq x (j : Int) * atq (lvat L j) (r : Int))) := sumr_congr fun j hj => by
    rw [mulv_at hm (by rw [tra_len]; exact hn) (by rw [tra_len]; exact hy) hj, tra_len, Rat.mul_comm, ← sumr_mul]
    refine sumr_congr fun r hr => ?_
    rw [lvat_tra hr, spf_at hm hj]
    grind
  rw [e1, e2, sumr_comm]

def adjst (L : List (List Eg)) (x y : List Eg) (m : Nat) (p q : Ve) (i : Int) : Go.Proofs.Ytpampkliahopdaa.St := ⟨[(1, .cv (.one (.b (.it (vecI false 12 (vv x)))))), (2, .cv (.one (.b (.it (vecI false 12 (vv y)))))), (3, .cv (.one (.b (.lit (.int .i64 (m : Int)))))), (15, .cv (.one (.b (.it (vecI true (mB (12 + 12 + 1) (vv x).length) p))))), (17, .cv (.one (.b (.it (vecI true (mB (12 + 12 + 1) (vv y).length) q))))), (13, .cv (.one (.b (.it (slI 1 ((ll L).map (rowW true 12))))))), (0, .cv (.one (.b (.it (slI 1 ((ll L).map (rowW false 12))))))), (19, .cv (.one (.b (.lit (.int .i64 i)))))], [], 50⟩
def adjin (L : List (List Eg)) (x y : List Eg) (m : Nat) (p q : Ve) (i : Nat) (k : Int) : Go.Proofs.Ytpampkliahopdaa.St := ⟨[(1, .cv (.one (.b (.it (vecI false 12 (vv x)))))), (2, .cv (.one (.b (.it (vecI false 12 (vv y)))))), (3, .cv (.one (.b (.lit (.int .i64 (m : Int)))))), (15, .cv (.one (.b (.it (vecI true (mB (12 + 12 + 1) (vv x).length) p))))), (17, .cv (.one (.b (.it (vecI true (mB (12 + 12 + 1) (vv y).length) q))))), (13, .cv (.one (.b (.it (slI 1 ((ll L).map (rowW true 12))))))), (0, .cv (.one (.b (.it (slI 1 ((ll L).map (rowW false 12))))))), (19, .cv (.one (.b (.lit (.int .i64 (i : Int)))))), (20, .cv (.one (.b (.lit (.int .i64 k)))))], [], 50⟩
section
variable {I : WInv}
theorem adj_loop (L : List (List Eg)) (x y : List Eg) (m : Nat) (p q : Ve) (hL : (ll L).length ≤ 20) (hM : ∀ v ∈ ll L, v.length ≤ 60) : LoopTr Try.prog I 210 (loopC Try.prog 9 0) (adjst L x y m p q ((0 : Nat) : Int)) (.exit 0) ⟨[(1, .cv (.one (.b (.it (vecI false 12 (vv x)))))), (2, .cv (.one (.b (.it (vecI false 12 (vv y)))))), (3, .cv (.one (.b (.lit (.int .i64 (m : Int)))))), (15, .cv (.one (.b (.it (vecI true (mB (12 + 12 + 1) (vv x).length) p))))), (17, .cv (.one (.b (.it (vecI true (mB (12 + 12 + 1) (vv y).length) q))))), (0, .cv (.one (.b (.it (slI 1 ((ll L).map (rowW false 12)))))))], [], 50⟩ := loop_up (by simp) (fun i => adjst L x y m p q (i : Int)) (ll L).length (fun i hi => by
    have hl := hM _ (lvat_mem hi)
    have lo : LoopTr Try.prog I 210 (loopC Try.prog 9 1) (adjin L x y m p q i ((0 : Nat) : Int)) (.exit 2) (adjst L x y m p q (i : Int)) := loop_up (by simp) (fun k => adjin L x y m p q i (k : Int)) (lvat (ll L) i).length (fun k hk => by
      exact rnd_run 1000 [pk (sl_idx 56 23 1 ((ll L).map (rowW true 12)) i (i : Int) ((rowW true 12) (lvat (ll L) i)) (by kernel_rfl) (by kernel_rfl) (by omega) (lvat_row hi)), pk (sl_len2 23 41 3 5 (((lvat (ll L) i)).map (rowV true 12)) (((lvat (ll L) i)).length : Int) (by kernel_rfl) (by rw [List.length_map])), pk (b_lss 3 (k : Int) (((lvat (ll L) i)).length : Int) true (decide_eq_true (by omega))), pk (sl_idx 56 23 1 ((ll L).map (rowW true 12)) i (i : Int) ((rowW true 12) (lvat (ll L) i)) (by kernel_rfl) (by kernel_rfl) (by omega) (lvat_row hi)), pk (sl_idx 23 41 5 (((lvat (ll L) i)).map (rowV true 12)) k (k : Int) ((rowV true 12) (vat (lvat (ll L) i) k)) (by kernel_rfl) (by kernel_rfl) (by omega) (vat_row hk)), pk (sl_idx 56 23 1 ((ll L).map (rowW false 12)) i (i : Int) ((rowW false 12) (lvat (ll L) i)) (by kernel_rfl) (by kernel_rfl) (by omega) (lvat_row hi)), pk (sl_idx 23 41 5 (((lvat (ll L) i)).map (rowV false 12)) k (k : Int) ((rowV false 12) (vat (lvat (ll L) i) k)) (by kernel_rfl) (by kernel_rfl) (by omega) (vat_row hk)), pk (b_neq 3 ((vat (lvat (ll L) i) k).1) ((vat (lvat (ll L) i) k).1) false (decide_eq_true rfl)), pk (sl_idx 56 23 1 ((ll L).map (rowW true 12)) i (i : Int) ((rowW true 12) (lvat (ll L) i)) (by kernel_rfl) (by kernel_rfl) (by omega) (lvat_row hi)), pk (sl_idx 23 41 5 (((lvat (ll L) i)).map (rowV true 12)) k (k : Int) ((rowV true 12) (vat (lvat (ll L) i) k)) (by kernel_rfl) (by kernel_rfl) (by omega) (vat_row hk)), pk (sl_idx 56 23 1 ((ll L).map (rowW false 12)) i (i : Int) ((rowW false 12) (lvat (ll L) i)) (by kernel_rfl) (by kernel_rfl) (by omega) (lvat_row hi)), pk (sl_idx 23 41 5 (((lvat (ll L) i)).map (rowV false 12)) k (k : Int) ((rowV false 12) (vat (lvat (ll L) i) k)) (by kernel_rfl) (by kernel_rfl) (by omega) (vat_row hk)), po (rreduceF (I := I) (c := false) (k := 12) (p := (vat (lvat (ll L) i) k).2) (by omega)), po (sameFracF_eq (I := I) (k := 12) (j := 12) (p := (vat (lvat (ll L) i) k).2) (q := (vat (lvat (ll L) i) k).2) rfl), ⟨.auto, trivial⟩, pk (b_add 3 (k : Int) 1 ⟨by omega, by omega⟩)] (by kernel_rfl)) (by
      exact rnd_run 1000 [pk (sl_idx 56 23 1 ((ll L).map (rowW true 12)) i (i : Int) ((rowW true 12) (lvat (ll L) i)) (by kernel_rfl) (by kernel_rfl) (by omega) (lvat_row hi)), pk (sl_len2 23 41 3 5 (((lvat (ll L) i)).map (rowV true 12)) (((lvat (ll L) i)).length : Int) (by kernel_rfl) (by rw [List.length_map])), pk (b_lss 3 ((lvat (ll L) i).length : Int) (((lvat (ll L) i)).length : Int) false (decide_eq_false (by omega)))] (by kernel_rfl))
    exact rnd_run 1000 [pk (sl_len2 56 23 3 1 ((ll L).map (rowW false 12)) ((ll L).length : Int) (by kernel_rfl) (by rw [List.length_map])), pk (b_lss 3 (i : Int) ((ll L).length : Int) true (decide_eq_true (by omega))), pk (sl_idx 56 23 1 ((ll L).map (rowW true 12)) i (i : Int) ((rowW true 12) (lvat (ll L) i)) (by kernel_rfl) (by kernel_rfl) (by omega) (lvat_row hi)), pk (sl_len2 23 41 3 5 (((lvat (ll L) i)).map (rowV true 12)) (((lvat (ll L) i)).length : Int) (by kernel_rfl) (by rw [List.length_map])), pk (sl_idx 56 23 1 ((ll L).map (rowW false 12)) i (i : Int) ((rowW false 12) (lvat (ll L) i)) (by kernel_rfl) (by kernel_rfl) (by omega) (lvat_row hi)), pk (sl_len2 23 41 3 5 (((lvat (ll L) i)).map (rowV false 12)) (((lvat (ll L) i)).length : Int) (by kernel_rfl) (by rw [List.length_map])), pk (b_neq 3 (((lvat (ll L) i)).length : Int) (((lvat (ll L) i)).length : Int) false (decide_eq_true rfl)), pl (lo), pk (b_add 3 (i : Int) 1 ⟨by omega, by omega⟩)] (by kernel_rfl)) (by
    exact rnd_run 1000 [pk (sl_len2 56 23 3 1 ((ll L).map (rowW false 12)) ((ll L).length : Int) (by kernel_rfl) (by rw [List.length_map])), pk (b_lss 3 ((ll L).length : Int) ((ll L).length : Int) false (decide_eq_false (by omega)))] (by kernel_rfl))
theorem adjoint_law (L : List (List Eg)) (x y : List Eg) (n : Int) (hL : MemL L) (hx : MemV x) (hy : MemV y) : Sp Try.prog I 9 [.one (.b (.it (slI 1 (L.map rowM)))), .one (.b (.it (vgI x))), .one (.b (.it (vgI y))), ci n] (lb true) := by
  obtain ⟨b1, l1, ok1⟩ := lightL_cases (I := I) L hL
  obtain ⟨b2, l2, ok2⟩ := light2_cases (I := I) x y hx hy
  have l3 := small_sp (I := I) n
  cases b1 with
  | false => exact sp_run (nt := 210) 1000 [po (l1), ⟨.auto, trivial⟩, po (awakev_sp)] (by kernel_rfl)
  | true =>
    have k1 := ok1 rfl
    cases b2 with
    | false => exact sp_run (nt := 210) 1000 [po (l1), ⟨.auto, trivial⟩, pk (bsM2 x y), po (l2), ⟨.auto, trivial⟩, po (awakev_sp)] (by kernel_rfl)
    | true =>
      obtain ⟨k2, k3⟩ := ok2 rfl
      cases hs : smallB n with
      | false =>
        rw [hs] at l3
        exact sp_run (nt := 210) 1000 [po (l1), ⟨.auto, trivial⟩, pk (bsM2 x y), po (l2), ⟨.auto, trivial⟩, po (l3), ⟨.auto, trivial⟩, po (awakev_sp)] (by kernel_rfl)
      | true =>
        rw [hs] at l3
        have n1 : (ll L).length ≤ 20 := by rw [ll_len]; exact k1.len
        have n2 : (vv x).length ≤ 60 := by rw [vv_len]; exact k2.len
        have n3 : (vv y).length ≤ 60 := by rw [vv_len]; exact k3.len
        have hM : ∀ v ∈ ll L, v.length ≤ 1000000000 := fun v hv => by have := k1.short v hv; omega
        have va := (rvalidate_sp (I := I) (c := false) (k := 12) (vv x) ((ll L).length : Int) (by omega) (by omega)).wk (args' := [.one (.b (.it (vgI x))), ci ((ll L).length : Int)]) ⟨k2.le, CTle.refl, trivial⟩
        have vb := (rvalidate_sp (I := I) (c := false) (k := 12) (vv y) n (by omega) (by omega)).wk (args' := [.one (.b (.it (vgI y))), ci n]) ⟨k3.le, CTle.refl, trivial⟩
        by_cases h1 : vcode ((ll L).length : Int) (vv x) = 0
        · rw [h1] at va
          by_cases h2 : vcode n (vv y) = 0
          · rw [h2] at vb
            obtain ⟨m, rfl, hm⟩ := valid_nat hs h2
            by_cases h0 : tcode (m : Int) (ll L) = 0
            · obtain ⟨g1, g2, g3, g4⟩ := tcode_zero h0
              have hcol : ∀ j, j < (ll L).length → Val (m : Int) (lvat (ll L) j) := fun j hj => val_of (mcode_zero g4 j hj)
              have vx := val_of h1
              have vy := val_of h2
              have t1 := transpose_sp (I := I) (c := false) (k := 12) m (ll L) h0 (by omega) hM
              have t2 := rtranspose_sp (I := I) (c := false) (k := 12) m (ll L) h0 (by omega) hM
              have tl := tra_len (ll L) m
              have tM := tra_short (L := ll L) (n := m) (by omega)
              have tc : ∀ r, r < (tra (ll L) m).length → vcode ((ll L).length : Int) (lvat (tra (ll L) m) r) = 0 := fun r hr => by
                rw [tl] at hr
                rw [lvat_tra hr]
                exact val_code (spf_val _ (by omega))
              have tz : mcode ((ll L).length : Int) (tra (ll L) m) = 0 := findc_zero.2 fun r _ hr => tc r (by omega)
              have t0 : tcode ((ll L).length : Int) (tra (ll L) m) = 0 := by
                unfold tcode
                rw [if_neg (by omega)]
                exact tz
              have t3 := transpose_sp (I := I) (c := true) (k := 12) (ll L).length (tra (ll L) m) t0 (by omega) tM
              rw [tra_tra (by omega) (by omega) hcol] at t3
              have c1 : mcd (m : Int) (ll L) (vv x) = 0 := by unfold mcd; rw [if_neg (by omega), if_pos g4]; exact h1
              have c2 : mcd ((ll L).length : Int) (tra (ll L) m) (vv y) = 0 := by unfold mcd; rw [if_neg (by omega), if_pos tz, tl]; exact h2
              have B1 : mB (12 + 12 + 1) (vv x).length ≤ 1501 := by rw [mB_eq]; omega
              have B2 : mB (12 + 12 + 1) (vv y).length ≤ 1501 := by rw [mB_eq]; omega
              have m1 := multiply_sp (I := I) (c := false) (c' := false) (k := 12) (kk := 12) m (ll L) (vv x) c1 (by omega) (by omega) (by omega) hM (by omega) (by omega)
              have m2 := multiply_sp (I := I) (c := true) (c' := false) (k := 12) (kk := 12) (ll L).length (tra (ll L) m) (vv y) c2 (by omega) (by omega) (by omega) tM (by omega) (by omega)
              have adj := adj_eq (by omega) (by omega) hcol vx vy
              have hp : Val (m : Int) (mulv m (ll L) (vv x) (vv x).length) := mulv_val (by omega) _ _ _
              have hq : Val ((ll L).length : Int) (mulv (ll L).length (tra (ll L) m) (vv y) (vv y).length) := mulv_val (by omega) _ _ _
              generalize mulv m (ll L) (vv x) (vv x).length = p at *
              generalize mulv (ll L).length (tra (ll L) m) (vv y) (vv y).length = q at *
              have hpl := hp.len
              have hql := hq.len
              have bc1 : bcode (m : Int) (vv y) p = 0 := by unfold bcode; rw [if_pos h2, val_code hp]
              have bc2 : bcode ((ll L).length : Int) q (vv x) = 0 := by unfold bcode; rw [if_pos (val_code hq), h1]
              have lo := adj_loop (I := I) L x y m p q n1 k1.short
              generalize mB (12 + 12 + 1) (vv x).length = e1 at *
              generalize mB (12 + 12 + 1) (vv y).length = e2 at *
              have b1 : dB (12 + e1 + 1) (vv y).length ≤ 100000 := by
                unfold dB
                have : (12 + e1 + 1) * (vv y).length ≤ 1514 * 60 := Nat.mul_le_mul (by omega) n3
                omega
              have b2 : dB (e2 + 12 + 1) q.length ≤ 100000 := by
                unfold dB
                have : (e2 + 12 + 1) * q.length ≤ 1514 * 20 := Nat.mul_le_mul (by omega) (by omega)
                omega
              have d1 := dot_sp (I := I) (c := false) (c' := true) (k := 12) (j := e1) (m : Int) (vv y) p bc1 b1 (by omega) (by omega) (by omega) (by omega)
              have d2 := dot_sp (I := I) (c := true) (c' := false) (k := e2) (j := 12) ((ll L).length : Int) q (vv x) bc2 b2 (by omega) (by omega) (by omega) (by omega)
              exact sp_run (nt := 210) 1000 [po (l1), ⟨.auto, trivial⟩, pk (bsM2 x y), po (l2), ⟨.auto, trivial⟩, po (l3), ⟨.auto, trivial⟩, pk (sl_len2 56 23 3 1 (L.map rowM) ((ll L).length : Int) (by kernel_rfl) (by rw [List.length_map, ll_len])), po (va), ⟨.auto, trivial⟩, po (vb), ⟨.auto, trivial⟩, pm ((show Leads I _ ⟨[(0, .cv (.one (.b (.it (slI 1 (L.map rowM)))))), (1, .cv (.one (.b (.it (vgI x))))), (2, .cv (.one (.b (.it (vgI y))))), (3, .cv (.one (.b (.lit (.int .i64 (m : Int)))))), (8, .cv (.one (.b (.lit (.bool false))))), (26, .cv (.one (.b (.lit (.bool true))))), (27, .cv (.one (.b (.lit (.bool false))))), (28, .cv (.one (.b (.lit (.bool false))))), (32, .cv (.one (.b (.lit (.bool true))))), (33, .cv (.one (.b (.lit (.bool false))))), (34, .cv (.one (.b (.lit (.bool false))))), (35, .cv (.one (.b (.lit (.bool false))))), (37, .cv (.one (.b (.lit (.bool true))))), (38, .cv (.one (.b (.lit (.bool false))))), (39, .cv (.one (.b (.lit (.bool false))))), (40, .cv (.one (.b (.lit (.bool false))))), (45, .cv (.one (.b (.lit (.bool false))))), (46, .cv (.one (.b (.lit (.bool false))))), (47, .cv (.one (.b (.lit (.bool false))))), (51, .cv (.one (.b (.lit (.bool false))))), (52, .cv (.one (.b (.lit (.bool false)))))], [], 29⟩ ⟨[(0, .cv (.one (.b (.it (slI 1 ((ll L).map (rowW false 12))))))), (1, .cv (.one (.b (.it (vecI false 12 (vv x)))))), (2, .cv (.one (.b (.it (vecI false 12 (vv y)))))), (3, .cv (.one (.b (.lit (.int .i64 (m : Int)))))), (8, .cv (.one (.b (.lit (.bool false))))), (26, .cv (.one (.b (.lit (.bool true))))), (27, .cv (.one (.b (.lit (.bool false))))), (28, .cv (.one (.b (.lit (.bool false))))), (32, .cv (.one (.b (.lit (.bool true))))), (33, .cv (.one (.b (.lit (.bool false))))), (34, .cv (.one (.b (.lit (.bool false))))), (35, .cv (.one (.b (.lit (.bool false))))), (37, .cv (.one (.b (.lit (.bool true))))), (38, .cv (.one (.b (.lit (.bool false))))), (39, .cv (.one (.b (.lit (.bool false))))), (40, .cv (.one (.b (.lit (.bool false))))), (45, .cv (.one (.b (.lit (.bool false))))), (46, .cv (.one (.b (.lit (.bool false))))), (47, .cv (.one (.b (.lit (.bool false))))), (51, .cv (.one (.b (.lit (.bool false))))), (52, .cv (.one (.b (.lit (.bool false)))))], [], 29⟩ from weak_leads ⟨rfl, k1.le.tv, rfl, k2.le.tv, rfl, k3.le.tv, rfl, TVle.refl, rfl, TVle.refl, rfl, TVle.refl, rfl, TVle.refl, rfl, TVle.refl, rfl, TVle.refl, rfl, TVle.refl, rfl, TVle.refl, rfl, TVle.refl, rfl, TVle.refl, rfl, TVle.refl, rfl, TVle.refl, rfl, TVle.refl, rfl, TVle.refl, rfl, TVle.refl, rfl, TVle.refl, rfl, TVle.refl, rfl, TVle.refl, trivial⟩ trivial)), po (t1), po (t2), ⟨.auto, trivial⟩, pk (sl_len2 56 23 3 1 ((ll L).map (rowW false 12)) ((ll L).length : Int) (by kernel_rfl) (by rw [List.length_map])), po (t3), po (m1), pk (sl_len2 56 23 3 1 ((ll L).map (rowW false 12)) ((ll L).length : Int) (by kernel_rfl) (by rw [List.length_map])), po (m2), ⟨.auto, trivial⟩, ⟨.auto, trivial⟩, ⟨.auto, trivial⟩, ⟨.auto, trivial⟩, pk (sl_len2 56 23 3 1 ((ll L).map (rowW true 12)) ((ll L).length : Int) (by kernel_rfl) (by rw [List.length_map])), pk (sl_len2 56 23 3 1 ((ll L).map (rowW false 12)) ((ll L).length : Int) (by kernel_rfl) (by rw [List.length_map])), pk (b_neq 3 ((ll L).length : Int) ((ll L).length : Int) false (decide_eq_true rfl)), pl (lo), po (d1), pk (sl_len2 56 23 3 1 ((ll L).map (rowW false 12)) ((ll L).length : Int) (by kernel_rfl) (by rw [List.length_map])), po (d2), ⟨.auto, trivial⟩, ⟨.auto, trivial⟩, po (sameFracF_eq (I := I) (k := dB (12 + e1 + 1) (vv y).length) (j := dB (e2 + 12 + 1) q.length) (p := dsum (vv y) p (vv y).length) (q := dsum q (vv x) q.length) adj), po (awakev_sp)] (by kernel_rfl)
            · obtain ⟨r, hr⟩ : ∃ r, tcode (m : Int) (ll L) = r := ⟨_, rfl⟩
              rw [hr] at h0
              have t1 := transpose_err (I := I) (c := false) (k := 12) (m : Int) r (ll L) hr h0 (by omega) (by omega) hM
              have t2 := rtranspose_err (I := I) (c := false) (k := 12) (m : Int) r (ll L) hr h0 (by omega) (by omega) hM
              exact sp_run (nt := 210) 1000 [po (l1), ⟨.auto, trivial⟩, pk (bsM2 x y), po (l2), ⟨.auto, trivial⟩, po (l3), ⟨.auto, trivial⟩, pk (sl_len2 56 23 3 1 (L.map rowM) ((ll L).length : Int) (by kernel_rfl) (by rw [List.length_map, ll_len])), po (va), ⟨.auto, trivial⟩, po (vb), ⟨.auto, trivial⟩, pm ((show Leads I _ ⟨[(0, .cv (.one (.b (.it (slI 1 (L.map rowM)))))), (1, .cv (.one (.b (.it (vgI x))))), (2, .cv (.one (.b (.it (vgI y))))), (3, .cv (.one (.b (.lit (.int .i64 (m : Int)))))), (8, .cv (.one (.b (.lit (.bool false))))), (26, .cv (.one (.b (.lit (.bool true))))), (27, .cv (.one (.b (.lit (.bool false))))), (28, .cv (.one (.b (.lit (.bool false))))), (32, .cv (.one (.b (.lit (.bool true))))), (33, .cv (.one (.b (.lit (.bool false))))), (34, .cv (.one (.b (.lit (.bool false))))), (35, .cv (.one (.b (.lit (.bool false))))), (37, .cv (.one (.b (.lit (.bool true))))), (38, .cv (.one (.b (.lit (.bool false))))), (39, .cv (.one (.b (.lit (.bool false))))), (40, .cv (.one (.b (.lit (.bool false))))), (45, .cv (.one (.b (.lit (.bool false))))), (46, .cv (.one (.b (.lit (.bool false))))), (47, .cv (.one (.b (.lit (.bool false))))), (51, .cv (.one (.b (.lit (.bool false))))), (52, .cv (.one (.b (.lit (.bool false)))))], [], 29⟩ ⟨[(0, .cv (.one (.b (.it (slI 1 ((ll L).map (rowW false 12))))))), (1, .cv (.one (.b (.it (vecI false 12 (vv x)))))), (2, .cv (.one (.b (.it (vecI false 12 (vv y)))))), (3, .cv (.one (.b (.lit (.int .i64 (m : Int)))))), (8, .cv (.one (.b (.lit (.bool false))))), (26, .cv (.one (.b (.lit (.bool true))))), (27, .cv (.one (.b (.lit (.bool false))))), (28, .cv (.one (.b (.lit (.bool false))))), (32, .cv (.one (.b (.lit (.bool true))))), (33, .cv (.one (.b (.lit (.bool false))))), (34, .cv (.one (.b (.lit (.bool false))))), (35, .cv (.one (.b (.lit (.bool false))))), (37, .cv (.one (.b (.lit (.bool true))))), (38, .cv (.one (.b (.lit (.bool false))))), (39, .cv (.one (.b (.lit (.bool false))))), (40, .cv (.one (.b (.lit (.bool false))))), (45, .cv (.one (.b (.lit (.bool false))))), (46, .cv (.one (.b (.lit (.bool false))))), (47, .cv (.one (.b (.lit (.bool false))))), (51, .cv (.one (.b (.lit (.bool false))))), (52, .cv (.one (.b (.lit (.bool false)))))], [], 29⟩ from weak_leads ⟨rfl, k1.le.tv, rfl, k2.le.tv, rfl, k3.le.tv, rfl, TVle.refl, rfl, TVle.refl, rfl, TVle.refl, rfl, TVle.refl, rfl, TVle.refl, rfl, TVle.refl, rfl, TVle.refl, rfl, TVle.refl, rfl, TVle.refl, rfl, TVle.refl, rfl, TVle.refl, rfl, TVle.refl, rfl, TVle.refl, rfl, TVle.refl, rfl, TVle.refl, rfl, TVle.refl, rfl, TVle.refl, rfl, TVle.refl, trivial⟩ trivial)), po (t1), po (t2), pk (b_neq 26 r 0 true (decide_eq_false (by omega))), pk (b_eql 26 r r true (decide_eq_true rfl)), po (awakev_sp)] (by kernel_rfl)
          · exact sp_run (nt := 210) 1000 [po (l1), ⟨.auto, trivial⟩, pk (bsM2 x y), po (l2), ⟨.auto, trivial⟩, po (l3), ⟨.auto, trivial⟩, pk (sl_len2 56 23 3 1 (L.map rowM) ((ll L).length : Int) (by kernel_rfl) (by rw [List.length_map, ll_len])), po (va), ⟨.auto, trivial⟩, po (vb), pk (b_neq 26 (vcode n (vv y)) 0 true (decide_eq_false h2)), po (awakev_sp)] (by kernel_rfl)
        · exact sp_run (nt := 210) 1000 [po (l1), ⟨.auto, trivial⟩, pk (bsM2 x y), po (l2), ⟨.auto, trivial⟩, po (l3), ⟨.auto, trivial⟩, pk (sl_len2 56 23 3 1 (L.map rowM) ((ll L).length : Int) (by kernel_rfl) (by rw [List.length_map, ll_len])), po (va), pk (b_neq 26 (vcode ((ll L).length : Int) (vv x)) 0 true (decide_eq_false h1)), po (awakev_sp)] (by kernel_rfl)
theorem law_SparseAdjoint (w : World) {u v z : Value} {L : List (List Eg)} {x y : List Eg} (h1 : AVecs w u L) (h2 : AVec w v x) (h3 : AVec w z y) (n : Int) (wn : (Lit.int .i64 n).wf = true) : Calls Try.prog 9 #[u, v, z, .int .i64 n] w (RetV w (.bool true)) :=
  law_any (I := WInv.none) (adjoint_law L x y n ⟨h1.1, h1.2.1⟩ h2.1 h3.1) trivial ⟨_, _, rfl, h1.2.2, _, _, rfl, h2.2, _, _, rfl, h3.2, _, _, rfl, rfl, rfl⟩
end
end Go.Proofs.Ytpampkliahopdaa

/- SparseAdjoint: for every input the law's Go function returns true, and every argument reads afterwards as it read before. No condition. -/
namespace Go.Proofs.Ytpampkliahopdaa.sparseAdjoint
open Go.ChangeShapes Go.WideShapes Go.ChangeAt Go.RowKit
open Go.ChangeMaps (open_string shut_string)
set_option linter.unusedVariables false

theorem own : ownKnob Try.prog.godebug = none := by kernel_rfl
theorem laidOut : laidOutB Try.prog = true := by kernel_rfl

set_option maxRecDepth 100000 in
theorem lifted (os : Os) (started : os.Started) (H : Type) (enc : TypeId × Value → H) :
    ReturnsInHanded {} Try.checked os 9 .any (Rows.sparseAdjointSpec.pre6 enc Try.prog Try.f9 Rows.sparseAdjointRow.domain false) (Rows.sparseAdjointSpec.post enc Try.prog Try.f9 false true false false) := by
  refine returnsSized (C := Try.checked) own started (by kernel_rfl) Try.func9
    (ChangeSpec.witness6 (enc := enc) (C := Try.checked) false ⟨#[], #[.slice none 0 0, .slice none 0 0, .slice none 0 0, .int .i64 0], []⟩ 8 (by kernel_rfl) (by kernel_rfl) (by kernel_rfl) (by kernel_rfl)) ?_
  intro W base args ds gs before hval0 hW hcnd hsz0 _ _
  have hval : ∀ (j : Nat) t v, Try.f9.params[j]? = some t → args[j]? = some v → Value.okWide Try.prog W .any base t v := hval0
  have hsz : (DataW.weightsEach Try.prog (Try.f9.params.toList ++ Rows.sparseAdjointSpec.plain.varTypes Try.prog) (ds ++ gs)).all (· ≤ reachBytes) = true := hsz0
  have hW' := hW
  obtain ⟨p, q, hA0, hV, rfl, hfz, hnd⟩ := hW
  have hA : DataW.TrodAll enc Try.prog W 0 (fun _ => true) true Try.f9.params.toList args.toList ds p := hA0
  rw [Try.params9] at hA hval hsz
  obtain ⟨v0, vs0, d0, ds0, p0, q0, hargs, rfl, rfl, h0, r0⟩ := trodAll_cons hA
  obtain ⟨v1, vs1, d1, ds1, p1, q1, rfl, rfl, rfl, h1, r1⟩ := trodAll_cons r0
  obtain ⟨v2, vs2, d2, ds2, p2, q2, rfl, rfl, rfl, h2, r2⟩ := trodAll_cons r1
  obtain ⟨v3, vs3, d3, ds3, p3, q3, rfl, rfl, rfl, h3, r3⟩ := trodAll_cons r2
  obtain ⟨rfl, rfl, rfl⟩ := trodAll_nil r3
  obtain rfl : args = #[v0, v1, v2, v3] := by cases args; simp_all
  obtain ⟨rfl, rfl⟩ := trodVars_none hV
  have k0 := h0
  have lt0 : ∀ x ∈ p0, x.block < W.heap.size := by obtain ⟨m, hm⟩ := k0; exact DataW.trod_lt m _ _ _ hm
  have z0 := weight_at hsz (j := 0) (t := 56) (d := d0) rfl rfl
  obtain ⟨f0, b0⟩ := argVecs (hval 0 56 v0 rfl rfl) h0 z0
  have k1 := h1
  have lt1 : ∀ x ∈ p1, x.block < W.heap.size := by obtain ⟨m, hm⟩ := k1; exact DataW.trod_lt m _ _ _ hm
  have z1 := weight_at hsz (j := 1) (t := 23) (d := d1) rfl rfl
  obtain ⟨f1, b1⟩ := argVec (hval 1 23 v1 rfl rfl) h1 z1
  have k2 := h2
  have lt2 : ∀ x ∈ p2, x.block < W.heap.size := by obtain ⟨m, hm⟩ := k2; exact DataW.trod_lt m _ _ _ hm
  have z2 := weight_at hsz (j := 2) (t := 23) (d := d2) rfl rfl
  obtain ⟨f2, b2⟩ := argVec (hval 2 23 v2 rfl rfl) h2 z2
  obtain ⟨a3, rfl, rfl, rfl, w3⟩ := open_int Try.underlying3 (hval 3 3 v3 rfl rfl) h3
  clear hA0 hval0
  refine (law_SparseAdjoint W b0 b1 b2 a3 w3).mono fun e W' ⟨he, bel⟩ => ?_
  subst he
  exact ⟨_, rfl, _, _, _, [], _, [], hW', trodAll_mk1 (shut_bool Try.underlying4 _), (trodAll_cons_mk (Below.trod laidOut (by kernel_rfl) (of_decide_eq_true (by kernel_rfl)) k0 bel lt0) (trodAll_cons_mk (Below.trod laidOut (by kernel_rfl) (of_decide_eq_true (by kernel_rfl)) k1 bel lt1) (trodAll_cons_mk (Below.trod laidOut (by kernel_rfl) (of_decide_eq_true (by kernel_rfl)) k2 bel lt2) (trodAll_cons_mk (shut_int Try.underlying3 w3) trodAll_mk0)))), rfl, bel.frame _, fun h => by cases h⟩

theorem over : Rows.sparseAdjointRow.holds Try.pinned (OpenSpec.ofChange Rows.sparseAdjointSpec) :=
  OpenClaim.holds_of_wide 9 Try.f9 rfl rfl rfl rfl rfl rfl rfl ⟨rfl, rfl, rfl, rfl, rfl⟩ rfl rfl rfl rfl rfl (by kernel_rfl) Try.func9 (by kernel_rfl)
    (of_decide_eq_true (by kernel_rfl)) (by unfold Func.isWrapper; first | (rw [if_pos (by decide +kernel)]; kernel_rfl) | (rw [if_neg (by decide +kernel)]; exact ⟨rfl, rfl⟩))
    (fun os started H enc _ => lifted os started H enc)

theorem proved : Rows.SparseAdjointSaid := over
end Go.Proofs.Ytpampkliahopdaa.sparseAdjoint
