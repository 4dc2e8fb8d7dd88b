/- SparseLinear: for every input the law's Go function returns true, and every argument reads afterwards as it read before, where the listed package variables hold what the program's text lays; the card ties them to that text. (Merged by a program out of several texts.) -/
import Derived.Test.YtpampkliahopdaaOpenI
import Derived.Test.YtpampkliahopdaaPart57e5e060b1
import Derived.Test.YtpampkliahopdaaRows
import Derived.Test.YtpampkliahopdaaOpen
/- Opening an api.Frac, and a slice of them, that came in. -/
namespace Go.Proofs.Ytpampkliahopdaa
open Go.ChangeShapes Go.WideShapes Go.ChangeAt Go.RowKit Go.Joins
set_option linter.unusedVariables false

theorem Try.cellsFrac : Try.prog.cellsOf 39 = 4 := by kernel_rfl
set_option maxRecDepth 100000 in
theorem trodInt {H : Type} {enc : TypeId × Value → H} {W : World} {base fuel : Nat} {spare : Nat → Bool} {held : Bool} {cs : List Value} {y : DataW H × List MemPlace} (h : DataW.trod enc Try.prog W base spare held fuel 37 cs = some y)
    (hz : ∀ x ∈ DataW.weights Try.prog 37 y.1, x ≤ reachBytes) : ∃ s A n c z, cs = [.bool s, .slice A n c] ∧ AInt W s A n c z ∧ n ≤ 35184372087808 := by
  obtain ⟨y0, y1, m, rfl, hl, h0, h1⟩ := trod_struct2 Try.underlying37 h
  rw [Try.cellsInt] at hl
  match cs, hl with
  | [c0, c1], _ =>
    have h0 : DataW.trod enc Try.prog W base spare held m 4 [c0] = some y0 := h0
    have h1 : DataW.trod enc Try.prog W base spare held m 35 [c1] = some y1 := h1
    obtain ⟨s, e0, rfl⟩ := DataW.trod_bool Try.underlying4 h0
    obtain ⟨A, n, c, e1⟩ := slice_form Try.underlying35 h1
    simp only [List.cons.injEq, and_true] at e0 e1
    subst e0 e1
    obtain ⟨xs, hr, hnc, hc, hw⟩ := argRow (A := A) (len := n) (cap := c) Try.underlying35 Try.underlying77 (by kernel_rfl) ⟨m, show DataW.trod enc Try.prog W base spare held m 35 [.slice A n c] = some (y1.1, y1.2) from h1⟩
    have hn := slice_reach h1 (fun x hx => hz x (by
      simp only [DataW.weights, Try.underlying37]
      exact DataW.weights_mem_each (j := 1) (t := 35) (d := y1.1) rfl rfl x hx))
    refine ⟨s, A, n, c, sgn s (val xs), rfl, ⟨xs, hr, ?_, hnc, by unfold maxLen at hc; exact hc, rfl⟩, hn⟩
    exact ArgRow.word ⟨hr, hnc, hc, hw⟩
set_option maxRecDepth 100000 in
theorem trodFrac {H : Type} {enc : TypeId × Value → H} {W : World} {base fuel : Nat} {spare : Nat → Bool} {held : Bool} {cs : List Value} {y : DataW H × List MemPlace} (h : DataW.trod enc Try.prog W base spare held fuel 39 cs = some y)
    (hz : ∀ x ∈ DataW.weights Try.prog 39 y.1, x ≤ reachBytes) : ∃ p, W2 p ∧ Mem p ∧ semL (fun b => b < W.heap.size) W G0 (frl p) cs := by
  obtain ⟨y0, y1, m, rfl, hl, h0, h1⟩ := trod_struct2 Try.underlying39 h
  rw [Try.cellsFrac] at hl
  match cs, hl with
  | [c0, c1, c2, c3], _ =>
    have h0 : DataW.trod enc Try.prog W base spare held m 37 [c0, c1] = some y0 := h0
    have h1 : DataW.trod enc Try.prog W base spare held m 37 [c2, c3] = some y1 := h1
    obtain ⟨s, A, n, c, z, e1, a1, b1⟩ := trodInt h0 (fun x hx => hz x (by
      simp only [DataW.weights, Try.underlying39]
      exact DataW.weights_mem_each (j := 0) (t := 37) (d := y0.1) rfl rfl x hx))
    obtain ⟨s', A', n', c', z', e2, a2, b2⟩ := trodInt h1 (fun x hx => hz x (by
      simp only [DataW.weights, Try.underlying39]
      exact DataW.weights_mem_each (j := 1) (t := 37) (d := y1.1) rfl rfl x hx))
    obtain ⟨ds, k1, k2, _, k4⟩ := open_int' (N := fun b => b < W.heap.size) a1
    obtain ⟨es, g1, g2, _, g4⟩ := open_int' (N := fun b => b < W.heap.size) a2
    refine ⟨((s, ds), (s', es)), ⟨k1, g1⟩, ⟨by show ds.length ≤ _; omega, by show es.length ≤ _; omega⟩, ?_⟩
    rw [← e1] at k4
    rw [← e2] at g4
    exact semL_append k4 g4
set_option maxRecDepth 100000 in
theorem argFrac {H : Type} {enc : TypeId × Value → H} {W : World} {r : Reach} {b0 : Nat} {v : Value} {d : DataW H} {p : List MemPlace} (hv : Value.okWide Try.prog W r b0 39 v) (h : DataW.Trod enc Try.prog W 0 (fun _ => true) true 39 v d p)
    (hz : ∀ x ∈ DataW.weights Try.prog 39 d, x ≤ reachBytes) : ∃ q, AFrac W v q := by
  obtain ⟨cs, rfl, hsz⟩ := okWide_struct Try.underlying39 hv
  obtain ⟨fuel, hf⟩ := h
  obtain ⟨q, h1, h2, h3⟩ := trodFrac hf hz
  exact ⟨q, h1, h2, cs.toList, by simp, h3⟩
/-- a slice of fractions that came in -/
def AFracs (w : World) (v : Value) (xs : List Fg) : Prop := (∀ p ∈ xs, W2 p ∧ Mem p) ∧ xs.length ≤ 35184372087808 ∧ (CT.one (.b (.it (slI 4 (rowsF xs))))).sem (fun b => b < w.heap.size) w G0 v
set_option maxRecDepth 100000 in
theorem argFracs {H : Type} {enc : TypeId × Value → H} {W : World} {r : Reach} {b0 : Nat} {v : Value} {d : DataW H} {p : List MemPlace} (hv : Value.okWide Try.prog W r b0 30 v) (h : DataW.Trod enc Try.prog W 0 (fun _ => true) true 30 v d p)
    (hz : ∀ x ∈ DataW.weights Try.prog 30 d, x ≤ reachBytes) : ∃ q, AFracs W v q := by
  obtain ⟨fuel, hf⟩ := h
  obtain ⟨xs, h1, h2, h3⟩ := trodRows (Q := fun p : Fg => W2 p ∧ Mem p) (row := rowF) (sz := 4) Try.underlying30 Try.cellsFrac (by omega) (of_decide_eq_true (by kernel_rfl)) hf hz (fun n vs d ps hd hw => by
    obtain ⟨p, k1, k2, k3⟩ := trodFrac hd hw
    exact ⟨p, ⟨k1, k2⟩, semL_semL0 (xs := rowF p) k3⟩)
  refine ⟨xs, h1, h2, ?_⟩
  obtain ⟨A, c, e, rest⟩ := h3
  have : v = .slice A (rowsF xs).length c := by
    cases v with
    | agg cs =>
      exfalso
      cases hv
    | slice a n c => exact (List.cons.inj e).1
    | _ => cases e
  subst this
  exact ⟨A, c, rfl, rest⟩
end Go.Proofs.Ytpampkliahopdaa

/- The kit of the laws of vectors: Light, small, awake, arguments opened. -/
namespace Go.Proofs.Ytpampkliahopdaa
open Go Go.RowKit
set_option linter.unusedVariables false
set_option linter.unusedSimpArgs false

abbrev Eg := Int × Fg
abbrev rowG (x : Eg) : List It0 := [.lit (.int .i64 x.1), .lit (.bool x.2.1.1), .it (DS x.2.1.2), .lit (.bool x.2.2.1), .it (DS x.2.2.2)]
abbrev vgI (v : List Eg) : Item := slI 5 (v.map rowG)
abbrev rowM (v : List Eg) : List It0 := [.it (vgI v)]
def gat (v : List Eg) (i : Nat) : Eg := v.getD i (0, ((false, []), (false, [])))
def lat (L : List (List Eg)) (i : Nat) : List Eg := L.getD i []
theorem gat_get {v : List Eg} {i : Nat} (h : i < v.length) : gat v i = v[i] := by unfold gat; rw [List.getD_eq_getElem?_getD, List.getElem?_eq_getElem h]; rfl
theorem lat_get {v : List (List Eg)} {i : Nat} (h : i < v.length) : lat v i = v[i] := by unfold lat; rw [List.getD_eq_getElem?_getD, List.getElem?_eq_getElem h]; rfl
theorem gat_row {v : List Eg} {i : Nat} {f : Eg → List It0} (h : i < v.length) : (v.map f)[i]? = some (f (gat v i)) := map_some (by rw [gat_get h, List.getElem?_eq_getElem h])
theorem lat_row {v : List (List Eg)} {i : Nat} {f : List Eg → List It0} (h : i < v.length) : (v.map f)[i]? = some (f (lat v i)) := map_some (by rw [lat_get h, List.getElem?_eq_getElem h])
theorem gat_mem {v : List Eg} {i : Nat} (h : i < v.length) : gat v i ∈ v := by rw [gat_get h]; exact List.getElem_mem h
theorem lat_mem {v : List (List Eg)} {i : Nat} (h : i < v.length) : lat v i ∈ v := by rw [lat_get h]; exact List.getElem_mem h
def badV (v : List Eg) : Nat := v.findIdx fun e => !okF e.2
def badL (L : List (List Eg)) : Nat := L.findIdx fun v => decide (badV v < v.length)
def ltot (L : List (List Eg)) : Nat → Int
  | 0 => 0
  | i + 1 => IntKind.i64.wrap (ltot L i + ((lat L i).length : Int))
def lightB (L : List (List Eg)) : Bool := decide (¬ badL L < L.length) && decide (ltot L L.length ≤ 60) && decide (L.length ≤ 20)
abbrev MemV (v : List Eg) : Prop := (∀ e ∈ v, W2 e.2 ∧ Mem e.2) ∧ v.length ≤ 35184372087808
theorem badV_le (v : List Eg) : badV v ≤ v.length := List.findIdx_le_length
theorem badL_le (v : List (List Eg)) : badL v ≤ v.length := List.findIdx_le_length
theorem badV_ok {v : List Eg} {j : Nat} (h : j < badV v) : okF (gat v j).2 = true := by
  have hl := Nat.lt_of_lt_of_le h (badV_le v)
  have := List.not_of_lt_findIdx h
  rw [gat_get hl]
  simpa using this
theorem badV_at {v : List Eg} (h : badV v < v.length) : okF (gat v (badV v)).2 = false := by
  have := List.findIdx_getElem (w := h)
  rw [gat_get h]
  have h2 : (!okF v[badV v].2) = true := this
  simpa using h2
theorem badL_ok {L : List (List Eg)} {j : Nat} (h : j < badL L) : badV (lat L j) = (lat L j).length := by
  have hl := Nat.lt_of_lt_of_le h (badL_le L)
  have := List.not_of_lt_findIdx h
  rw [lat_get hl]
  have h2 := badV_le L[j]
  have h3 : ¬ badV L[j] < L[j].length := by simpa using this
  omega
theorem badL_at {L : List (List Eg)} (h : badL L < L.length) : badV (lat L (badL L)) < (lat L (badL L)).length := by
  have := List.findIdx_getElem (w := h)
  rw [lat_get h]
  exact of_decide_eq_true this
theorem light_ok {L : List (List Eg)} (h : lightB L = true) (hm : ∀ v ∈ L, MemV v) : L.length ≤ 20 ∧ ∀ v ∈ L, v.length ≤ 60 ∧ ∀ e ∈ v, okF e.2 = true := by
  unfold lightB at h
  simp only [Bool.and_eq_true, decide_eq_true_eq] at h
  obtain ⟨⟨h1, h2⟩, h3⟩ := h
  refine ⟨h3, ?_⟩
  have hlen : ∀ i, i < L.length → ((lat L i).length : Int) ≤ 35184372087808 := fun i hi => by have := (hm _ (lat_mem hi)).2; omega
  have key : ∀ i, i ≤ L.length → 0 ≤ ltot L i ∧ ltot L i ≤ (i : Int) * 35184372087808 ∧ ∀ x, x < i → ((lat L x).length : Int) ≤ ltot L i := by
    intro i
    induction i with
    | zero => intro _; exact ⟨Int.le_refl _, by simp [ltot], fun x hx => by omega⟩
    | succ i ih =>
      intro hi
      obtain ⟨k1, k2, k3⟩ := ih (by omega)
      have hl := hlen i (by omega)
      have e : ltot L (i + 1) = ltot L i + ((lat L i).length : Int) := IntWalk.i64_in _ ⟨by omega, by omega⟩
      refine ⟨by omega, by omega, fun x hx => ?_⟩
      by_cases hxi : x = i
      · rw [hxi, e]; omega
      · have := k3 x (by omega); omega
  obtain ⟨k1, k2, k3⟩ := key L.length (Nat.le_refl _)
  intro v hv
  obtain ⟨i, hi, rfl⟩ := List.getElem_of_mem hv
  have hle := k3 i hi
  rw [lat_get hi] at hle
  refine ⟨by omega, fun e he => ?_⟩
  obtain ⟨j, hj, rfl⟩ := List.getElem_of_mem he
  have hb := badL_ok (L := L) (j := i) (by omega)
  rw [lat_get hi] at hb
  have := badV_ok (v := L[i]) (j := j) (by omega)
  rw [gat_get hj] at this
  exact this
section
variable {P : Program}
theorem b_addw (t : TypeId) (x y : Int) : OpOb P (.bin .add t) [li x, li y] (li (IntKind.i64.wrap (x + y))) := op_lit (vs := [.int .i64 x, .int .i64 y]) fun w => by simp [OpK.run, eqGuard, binOp, Op.intArith]
end
section
variable {I : WInv}

def lgst (L : List (List Eg)) (n i : Int) : Go.Proofs.Ytpampkliahopdaa.St := ⟨[(0, .cv (.one (.b (.it (slI 1 ((L).map (rowM))))))), (3, .cv (.one (.b (.lit (.int .i64 n))))), (4, .cv (.one (.b (.lit (.int .i64 i)))))], [], 50⟩
def lkst (L : List (List Eg)) (n i k : Int) : Go.Proofs.Ytpampkliahopdaa.St := ⟨[(0, .cv (.one (.b (.it (slI 1 ((L).map (rowM))))))), (3, .cv (.one (.b (.lit (.int .i64 n))))), (4, .cv (.one (.b (.lit (.int .i64 i))))), (5, .cv (.one (.b (.lit (.int .i64 k)))))], [], 50⟩
theorem light_row {L : List (List Eg)} (hm : ∀ v ∈ L, MemV v) (hl : L.length ≤ 35184372087808) (n : Int) (i k : Nat) (hi : i < L.length) (hk : k < (lat L i).length) : (okF (gat (lat L i) k).2 = true → Rnd Try.prog I 46 (loopC Try.prog 10 1) (lkst L n i k) .normal (lkst L n i ((k + 1 : Nat) : Int))) ∧ (okF (gat (lat L i) k).2 = false → Rnd Try.prog I 46 (loopC Try.prog 10 1) (lkst L n i k) .ret ⟨[(2, .cv (.one (.b (.lit (.bool false)))))], [], 50⟩) := by
  have hv := hm _ (lat_mem hi)
  have he := hv.1 _ (gat_mem hk)
  have hlen := hv.2
  have l := fun b hb => light2_sp (I := I) [(gat (lat L i) k).2] (by intro x hx; simp at hx; subst hx; exact he.2) (by simp) b hb
  refine ⟨fun h => ?_, fun h => ?_⟩
  · have l := l true (by simp [h])
    exact rnd_run 1000 [pk (sl_idx 56 23 1 ((L).map (rowM)) i (i : Int) (rowM (lat L i)) (by kernel_rfl) (by kernel_rfl) (by omega) (lat_row hi)), pk (sl_len2 23 41 3 5 (((lat L i)).map (rowG)) (((lat L i)).length : Int) (by kernel_rfl) (by rw [List.length_map])), pk (b_lss 3 (k : Int) (((lat L i)).length : Int) true (decide_eq_true (by omega))), pk (sl_idx 56 23 1 ((L).map (rowM)) i (i : Int) (rowM (lat L i)) (by kernel_rfl) (by kernel_rfl) (by omega) (lat_row hi)), pk (sl_idx 23 41 5 (((lat L i)).map (rowG)) k (k : Int) (rowG (gat (lat L i) k)) (by kernel_rfl) (by kernel_rfl) (by omega) (gat_row hk)), pk (bs1_frac (gat (lat L i) k).2), po (l), ⟨.auto, trivial⟩, pk (b_add 3 (k : Int) 1 ⟨by omega, by omega⟩)] (by kernel_rfl)
  · have l := l false (by simp [h])
    exact rnd_run 1000 [pk (sl_idx 56 23 1 ((L).map (rowM)) i (i : Int) (rowM (lat L i)) (by kernel_rfl) (by kernel_rfl) (by omega) (lat_row hi)), pk (sl_len2 23 41 3 5 (((lat L i)).map (rowG)) (((lat L i)).length : Int) (by kernel_rfl) (by rw [List.length_map])), pk (b_lss 3 (k : Int) (((lat L i)).length : Int) true (decide_eq_true (by omega))), pk (sl_idx 56 23 1 ((L).map (rowM)) i (i : Int) (rowM (lat L i)) (by kernel_rfl) (by kernel_rfl) (by omega) (lat_row hi)), pk (sl_idx 23 41 5 (((lat L i)).map (rowG)) k (k : Int) (rowG (gat (lat L i) k)) (by kernel_rfl) (by kernel_rfl) (by omega) (gat_row hk)), pk (bs1_frac (gat (lat L i) k).2), po (l), ⟨.auto, trivial⟩] (by kernel_rfl)
theorem light3_sp (L : List (List Eg)) (hm : ∀ v ∈ L, MemV v) (hl : L.length ≤ 35184372087808) : Sp Try.prog I 10 [.one (.b (.it (slI 1 (L.map rowM))))] (lb (lightB L)) := by
  have step : ∀ i, i < badL L → Rnd Try.prog I 46 (loopC Try.prog 10 0) (lgst L (ltot L i) i) .normal (lgst L (ltot L (i + 1)) ((i + 1 : Nat) : Int)) := fun i hb => by
    have hi := Nat.lt_of_lt_of_le hb (badL_le L)
    have hok := badL_ok hb
    have hv := hm _ (lat_mem hi)
    have hlen := hv.2
    have lo : LoopTr Try.prog I 46 (loopC Try.prog 10 1) (lkst L (ltot L (i + 1)) i ((0 : Nat) : Int)) (.exit 2) (lkst L (ltot L (i + 1)) i (lat L i).length) := loop_up (by simp) (fun k => lkst L (ltot L (i + 1)) i k) (lat L i).length (fun k hk => (light_row hm hl _ i k hi hk).1 (badV_ok (by omega))) (by
      exact rnd_run 1000 [pk (sl_idx 56 23 1 ((L).map (rowM)) i (i : Int) (rowM (lat L i)) (by kernel_rfl) (by kernel_rfl) (by omega) (lat_row hi)), pk (sl_len2 23 41 3 5 (((lat L i)).map (rowG)) (((lat L i)).length : Int) (by kernel_rfl) (by rw [List.length_map])), pk (b_lss 3 ((lat L i).length : Int) (((lat L i)).length : Int) false (decide_eq_false (by omega)))] (by kernel_rfl))
    exact rnd_run 1000 [pk (sl_len2 56 23 3 1 ((L).map (rowM)) ((L).length : Int) (by kernel_rfl) (by rw [List.length_map])), pk (b_lss 3 (i : Int) ((L).length : Int) true (decide_eq_true (by omega))), pk (sl_idx 56 23 1 ((L).map (rowM)) i (i : Int) (rowM (lat L i)) (by kernel_rfl) (by kernel_rfl) (by omega) (lat_row hi)), pk (sl_len2 23 41 3 5 (((lat L i)).map (rowG)) (((lat L i)).length : Int) (by kernel_rfl) (by rw [List.length_map])), pk (b_addw 3 (ltot L i) (((lat L i)).length : Int)), pl (lo), pk (b_add 3 (i : Int) 1 ⟨by omega, by omega⟩)] (by kernel_rfl)
  by_cases hb : badL L < L.length
  · have hbv := badL_at hb
    have hB : lightB L = false := by unfold lightB; simp [hb]
    rw [hB]
    have lo : LoopTr Try.prog I 46 (loopC Try.prog 10 0) (lgst L (ltot L 0) ((0 : Nat) : Int)) .ret ⟨[(2, .cv (.one (.b (.lit (.bool false)))))], [], 50⟩ := loop_up (by simp) (fun i => lgst L (ltot L i) i) (badL L) step (by
      generalize badL L = i at *
      have hi := hb
      have hv := hm _ (lat_mem hi)
      have hlen := hv.2
      have lo : LoopTr Try.prog I 46 (loopC Try.prog 10 1) (lkst L (ltot L (i + 1)) i ((0 : Nat) : Int)) .ret ⟨[(2, .cv (.one (.b (.lit (.bool false)))))], [], 50⟩ := loop_up (by simp) (fun k => lkst L (ltot L (i + 1)) i k) (badV (lat L i)) (fun k hk => (light_row hm hl _ i k hi (Nat.lt_of_lt_of_le hk (badV_le _))).1 (badV_ok hk)) ((light_row hm hl _ i _ hi hbv).2 (badV_at hbv))
      exact rnd_run 1000 [pk (sl_len2 56 23 3 1 ((L).map (rowM)) ((L).length : Int) (by kernel_rfl) (by rw [List.length_map])), pk (b_lss 3 (i : Int) ((L).length : Int) true (decide_eq_true (by omega))), pk (sl_idx 56 23 1 ((L).map (rowM)) i (i : Int) (rowM (lat L i)) (by kernel_rfl) (by kernel_rfl) (by omega) (lat_row hi)), pk (sl_len2 23 41 3 5 (((lat L i)).map (rowG)) (((lat L i)).length : Int) (by kernel_rfl) (by rw [List.length_map])), pk (b_addw 3 (ltot L i) (((lat L i)).length : Int)), pl (lo)] (by kernel_rfl))
    exact sp_run (nt := 46) 1000 [pl (lo)] (by kernel_rfl)
  · have e : badL L = L.length := by have := badL_le L; omega
    rw [e] at step
    have lo : LoopTr Try.prog I 46 (loopC Try.prog 10 0) (lgst L (ltot L 0) ((0 : Nat) : Int)) (.exit 0) (lgst L (ltot L L.length) L.length) := loop_up (by simp) (fun i => lgst L (ltot L i) i) L.length step (by
      exact rnd_run 1000 [pk (sl_len2 56 23 3 1 ((L).map (rowM)) ((L).length : Int) (by kernel_rfl) (by rw [List.length_map])), pk (b_lss 3 (L.length : Int) ((L).length : Int) false (decide_eq_false (by omega)))] (by kernel_rfl))
    by_cases h1 : ltot L L.length ≤ 60
    · by_cases h2 : L.length ≤ 20
      · have hB : lightB L = true := by unfold lightB; simp [hb, h1, h2]
        rw [hB]
        exact sp_run (nt := 46) 1000 [pl (lo), pk (b_leq 3 (ltot L L.length) 60 true (decide_eq_true (by omega))), pk (sl_len2 56 23 3 1 ((L).map (rowM)) ((L).length : Int) (by kernel_rfl) (by rw [List.length_map])), pk (b_leq 3 ((L).length : Int) 20 true (decide_eq_true (by omega)))] (by kernel_rfl)
      · have hB : lightB L = false := by unfold lightB; simp [h2]
        rw [hB]
        exact sp_run (nt := 46) 1000 [pl (lo), pk (b_leq 3 (ltot L L.length) 60 true (decide_eq_true (by omega))), pk (sl_len2 56 23 3 1 ((L).map (rowM)) ((L).length : Int) (by kernel_rfl) (by rw [List.length_map])), pk (b_leq 3 ((L).length : Int) 20 false (decide_eq_false (by omega)))] (by kernel_rfl)
    · have hB : lightB L = false := by unfold lightB; simp [h1]
      rw [hB]
      exact sp_run (nt := 46) 1000 [pl (lo), pk (b_leq 3 (ltot L L.length) 60 false (decide_eq_false (by omega)))] (by kernel_rfl)
def smallB (n : Int) : Bool := decide (n ≤ 60) || decide (4096 < n)
theorem small_sp (n : Int) : Sp Try.prog I 14 [ci n] (lb (smallB n)) := by
  unfold smallB
  by_cases h1 : n ≤ 60
  · rw [decide_eq_true h1, Bool.true_or]
    exact sp_run (nt := 9) 1000 [pk (b_leq 3 n 60 true (decide_eq_true (by omega)))] (by kernel_rfl)
  · rw [decide_eq_false h1, Bool.false_or]
    by_cases h2 : 4096 < n
    · rw [decide_eq_true h2]
      exact sp_run (nt := 9) 1000 [pk (b_leq 3 n 60 false (decide_eq_false (by omega))), pk (b_gtr 3 n 4096 true (decide_eq_true (by omega)))] (by kernel_rfl)
    · rw [decide_eq_false h2]
      exact sp_run (nt := 9) 1000 [pk (b_leq 3 n 60 false (decide_eq_false (by omega))), pk (b_gtr 3 n 4096 false (decide_eq_false (by omega)))] (by kernel_rfl)

/-! ### the small example -/
theorem bs1_vec (x : Int × Rat) {c : Bool} {k : Nat} : OpOb Try.prog (.bs 23 1 [0]) [.cv (.ag [.b (.lit (.int .i64 x.1)), .b (.it (fF c k x.2))])] (tit (vecI c k [x])) :=
  bs_ob (e := 41) (cts := [.ag [.b (.lit (.int .i64 x.1)), .b (.it (fF c k x.2))]]) (z := [.int .i64 0, .bool false, .slice none 0 0, .bool false, .slice none 0 0]) (bytes := 72) (by kernel_rfl) (by decide) (by kernel_rfl) rfl rfl (by intro r hr; simp at hr; subst hr; rfl)
theorem bs2_vec (x y : Int × Rat) {c : Bool} {k : Nat} : OpOb Try.prog (.bs 23 2 [0, 1]) [.cv (.ag [.b (.lit (.int .i64 x.1)), .b (.it (fF c k x.2))]), .cv (.ag [.b (.lit (.int .i64 y.1)), .b (.it (fF c k y.2))])] (tit (vecI c k [x, y])) :=
  bs_ob (e := 41) (cts := [.ag [.b (.lit (.int .i64 x.1)), .b (.it (fF c k x.2))], .ag [.b (.lit (.int .i64 y.1)), .b (.it (fF c k y.2))]]) (z := [.int .i64 0, .bool false, .slice none 0 0, .bool false, .slice none 0 0]) (bytes := 72) (by kernel_rfl) (by decide) (by kernel_rfl) rfl rfl (by intro r hr; simp at hr; rcases hr with rfl | rfl <;> rfl)
abbrev exA : Ve := [(1, 2)]
abbrev exB : Ve := [(0, 5), (1, 3)]
theorem ex_code : bcode 2 exA exB = 0 := by decide
theorem ex_dot : dsum exA exB 1 = 6 := by decide +kernel
theorem awakev_sp : Sp Try.prog I 11 [] (lb true) := by
  have d := dot_sp (I := I) (c := true) (c' := true) (k := 2) (j := 2) 2 exA exB ex_code (by decide) (by omega) (by omega) (by decide) (by decide)
  have d : Sp Try.prog I 21 [.one (.b (.it (vecI true 2 exA))), .one (.b (.it (vecI true 2 exB))), ci 2] (.tu [fc true 7 6, ci 0]) := by
    rw [show exA.length = 1 from rfl, ex_dot] at d
    exact d
  exact sp_run (nt := 26) 1000 [po (wholeF (I := I) 2 ⟨by omega, by omega⟩), pk (bs1_vec (c := true) (k := 2) (1, 2)), po (wholeF (I := I) 5 ⟨by omega, by omega⟩), po (wholeF (I := I) 3 ⟨by omega, by omega⟩), pk (bs2_vec (c := true) (k := 2) (0, 5) (1, 3)), po (d), ⟨.auto, trivial⟩, po (wholeF (I := I) 6 ⟨by omega, by omega⟩), po (sameFracF_eq (I := I) (k := 7) (j := 2) (p := 6) (q := (6 : Rat)) rfl)] (by kernel_rfl)

/-! ### vectors of small fractions -/
def vv (v : List Eg) : Ve := v.map fun e => (e.1, vq e.2)
theorem vv_len (v : List Eg) : (vv v).length = v.length := by simp [vv]
theorem vec_le {v : List Eg} (h : ∀ e ∈ v, okF e.2 = true) (hm : MemV v) : ItLe (vgI v) (vecI false 12 (vv v)) :=
  slI_map (fun e => (e.1, vq e.2)) fun e he => I0le.cons X0le.refl (rowF_le (h e he) (hm.1 e he).1)
theorem frs_le {l : List Fg} (h : ∀ p ∈ l, okF p = true) (hm : ∀ p ∈ l, W2 p ∧ Mem p) : ItLe (slI 4 (rowsF l)) (frsI false 12 (l.map vq)) :=
  slI_map vq fun p hp => rowF_le (h p hp) (hm p hp).1
theorem frl_ile {p : Fg} (h : okF p = true) (hw : W2 p) : ILe (frl p) [.b (.it (fF false 12 (vq p)))] := by
  intro N w g x hx
  obtain ⟨vs, e, hv⟩ := frl_le h hw N w g (.agg x.toArray) ⟨x, rfl, hx⟩
  injection e with e
  have e := congrArg Array.toList e
  simp only at e
  subst e
  exact hv

/-! ### arguments -/
def AVec (w : World) (v : Value) (x : List Eg) : Prop := MemV x ∧ (CT.one (.b (.it (vgI x)))).sem (fun b => b < w.heap.size) w G0 v
def AVecs (w : World) (v : Value) (x : List (List Eg)) : Prop := (∀ y ∈ x, MemV y) ∧ x.length ≤ 35184372087808 ∧ (CT.one (.b (.it (slI 1 (x.map rowM))))).sem (fun b => b < w.heap.size) w G0 v
end
section
open Go.ChangeShapes Go.WideShapes Go.ChangeAt Go.Joins
theorem Try.cellsEntry : Try.prog.cellsOf 41 = 5 := by kernel_rfl
theorem Try.cellsVector : Try.prog.cellsOf 23 = 1 := by kernel_rfl
theorem one_agree {v : Value} {A : Option Addr} {n c : Nat} {l : List Value} (h : l = [v]) (e : l = [.slice A n c]) : v = .slice A n c := by
  rw [h] at e; exact (List.cons.inj e).1
set_option maxRecDepth 100000 in
theorem trodEntry {H : Type} {enc : TypeId × Value → H} {W : World} {base fuel : Nat} {spare : Nat → Bool} {held : Bool} {cs : List Value} {y : DataW H × List MemPlace} (h : DataW.trod enc Try.prog W base spare held fuel 41 cs = some y)
    (hz : ∀ x ∈ DataW.weights Try.prog 41 y.1, x ≤ reachBytes) : ∃ p : Eg, (W2 p.2 ∧ Mem p.2) ∧ semL0 (fun b => b < W.heap.size) W (rowG p) cs := by
  obtain ⟨y0, y1, m, rfl, hl, h0, h1⟩ := trod_struct2 Try.underlying41 h
  rw [Try.cellsEntry] at hl
  match cs, hl with
  | [c0, c1, c2, c3, c4], _ =>
    have h0 : DataW.trod enc Try.prog W base spare held m 3 [c0] = some y0 := h0
    have h1 : DataW.trod enc Try.prog W base spare held m 39 [c1, c2, c3, c4] = some y1 := h1
    obtain ⟨z, e0, _⟩ := DataW.trod_int Try.underlying3 h0
    simp only [List.cons.injEq, and_true] at e0
    subst e0
    obtain ⟨p, k1, k2, k3⟩ := trodFrac h1 (fun x hx => hz x (by
      simp only [DataW.weights, Try.underlying41]
      exact DataW.weights_mem_each (j := 1) (t := 39) (d := y1.1) rfl rfl x hx))
    exact ⟨(z, p), ⟨k1, k2⟩, [_], _, rfl, rfl, semL_semL0 (xs := rowF p) k3⟩
set_option maxRecDepth 100000 in
theorem trodVec {H : Type} {enc : TypeId × Value → H} {W : World} {base fuel : Nat} {spare : Nat → Bool} {held : Bool} {cs : List Value} {y : DataW H × List MemPlace} (h : DataW.trod enc Try.prog W base spare held fuel 23 cs = some y)
    (hz : ∀ x ∈ DataW.weights Try.prog 23 y.1, x ≤ reachBytes) : ∃ v : List Eg, MemV v ∧ (vgI v).T (fun b => b < W.heap.size) W cs := by
  obtain ⟨xs, h1, h2, h3⟩ := trodRows (Q := fun p : Eg => W2 p.2 ∧ Mem p.2) (row := rowG) (sz := 5) Try.underlying23 Try.cellsEntry (by omega) (of_decide_eq_true (by kernel_rfl)) h hz (fun n vs d ps hd hw => trodEntry hd hw)
  exact ⟨xs, ⟨h1, h2⟩, h3⟩
theorem slice_arg {w : World} {v : Value} {sz : Nat} {rows : List (List It0)} {cs : List Value} (hv : v.cells.toList = cs) (hn : ∀ x, v ≠ .agg x) (h : (slI sz rows).T (fun b => b < w.heap.size) w cs) : (CT.one (.b (.it (slI sz rows)))).sem (fun b => b < w.heap.size) w G0 v := by
  obtain ⟨A, c, e, rest⟩ := h
  have : v = .slice A rows.length c := by
    cases v with
    | agg x => exact absurd rfl (hn x)
    | slice a n c' => rw [← hv] at e; exact (List.cons.inj e).1
    | _ => rw [← hv] at e; cases e
  subst this
  exact ⟨A, c, rfl, rest⟩
set_option maxRecDepth 100000 in
theorem argVec {H : Type} {enc : TypeId × Value → H} {W : World} {r : Reach} {b0 : Nat} {v : Value} {d : DataW H} {p : List MemPlace} (hv : Value.okWide Try.prog W r b0 23 v) (h : DataW.Trod enc Try.prog W 0 (fun _ => true) true 23 v d p)
    (hz : ∀ x ∈ DataW.weights Try.prog 23 d, x ≤ reachBytes) : ∃ q, AVec W v q := by
  obtain ⟨fuel, hf⟩ := h
  obtain ⟨xs, h1, h2⟩ := trodVec hf hz
  exact ⟨xs, h1, slice_arg rfl (fun x e => by subst e; cases hv) h2⟩
set_option maxRecDepth 100000 in
theorem argVecs {H : Type} {enc : TypeId × Value → H} {W : World} {r : Reach} {b0 : Nat} {v : Value} {d : DataW H} {p : List MemPlace} (hv : Value.okWide Try.prog W r b0 56 v) (h : DataW.Trod enc Try.prog W 0 (fun _ => true) true 56 v d p)
    (hz : ∀ x ∈ DataW.weights Try.prog 56 d, x ≤ reachBytes) : ∃ q, AVecs W v q := by
  obtain ⟨fuel, hf⟩ := h
  obtain ⟨xs, h1, h2, h3⟩ := trodRows (Q := fun p : List Eg => MemV p) (row := rowM) (sz := 1) Try.underlying56 Try.cellsVector (by omega) (of_decide_eq_true (by kernel_rfl)) hf hz (fun n vs d ps hd hw => by
    obtain ⟨v, k1, k2⟩ := trodVec hd hw
    exact ⟨v, k1, vs, [], by simp, k2, rfl⟩)
  exact ⟨xs, h1, h2, slice_arg rfl (fun x e => by subst e; cases hv) h3⟩
/-- sizes of the arguments, ahead of the walk -/
theorem returnsSized {H : Type} {enc : TypeId × Value → H} {a : Assume} {C : Checked} {os : Os} {f : FuncId} {fn : Func} {s : ChangeSpec} {conds : List PathCond} {apart fresh handsOn again : Bool}
    (own : ownKnob C.prog.godebug = none) (started : os.Started) (noInit : C.prog.inits.idxOf? f = none) (hfn : C.prog.funcs[f]? = some fn)
    (witness : ∃ (w : World) (tape : Tape) (i : Input), w.os = os ∧ (w.forCall tape i).Shaped C.prog ∧ i.vars = [] ∧ Input.okWide C.prog (w.forCall tape i) .any w.heap.size f i ∧
      s.pre6 enc C.prog fn conds apart (w.forCall tape i).memory i.args ∧ a.holds C.prog (lone (Frame.enter C.prog f i.args .normal) [] (w.forCall tape i)))
    (contract : ∀ (W : World) (base : Nat) (args : Array Value) (ds gs : List (DataW H)) (before : List MemPlace),
      (∀ (j : Nat) t v, fn.params[j]? = some t → args[j]? = some v → Value.okWide C.prog W .any base t v) →
      DataW.Whole enc C.prog fn.params.toList s.vars apart W args.toList ds gs before →
      conds.all (PathCond.test C.prog ⟨fn.params.toList, ds, s.plain.varTypes C.prog, gs⟩) = true →
      (DataW.weightsEach C.prog (fn.params.toList ++ s.plain.varTypes C.prog) (ds ++ gs)).all (· ≤ reachBytes) = true → True →
      a.holds C.prog (lone (Frame.enter C.prog f args .normal) [] W) →
      Calls C.prog f args W fun e W' => ∃ v, e = .returned v ∧ s.post enc C.prog fn apart fresh handsOn again W args v W') :
    ReturnsInHanded a C os f .any (s.pre6 enc C.prog fn conds apart) (s.post enc C.prog fn apart fresh handsOn again) := by
  obtain ⟨w, tape, i, a1, a2, a3, a4, ⟨a5, a6⟩, a7⟩ := witness
  have h := returnsInHanded_of_change_and (X := fun _ _ => True) (fun _ _ _ _ h => h) own started noInit hfn ⟨w, tape, i, a1, a2, a3, a4, ⟨⟨a5, trivial⟩, a6⟩, a7⟩ contract
  simp only [and_true] at h
  exact h
end
end Go.Proofs.Ytpampkliahopdaa

/- The laws' common ground: arguments that passed Light, as vectors with short fractions. -/
namespace Go.Proofs.Ytpampkliahopdaa
open Go Go.RowKit
set_option linter.unusedVariables false
set_option linter.unusedSimpArgs false

theorem bsM1 (u : List Eg) : OpOb Try.prog (.bs 56 1 [0]) [tit (vgI u)] (tit (slI 1 ([u].map rowM))) :=
  bs_ob (e := 23) (cts := [.one (.b (.it (vgI u)))]) (z := [.slice none 0 0]) (bytes := 24) (by kernel_rfl) (by decide) (by kernel_rfl) rfl rfl (by intro r hr; simp at hr; subst hr; rfl)
theorem bsM2 (u v : List Eg) : OpOb Try.prog (.bs 56 2 [0, 1]) [tit (vgI u), tit (vgI v)] (tit (slI 1 ([u, v].map rowM))) :=
  bs_ob (e := 23) (cts := [.one (.b (.it (vgI u))), .one (.b (.it (vgI v)))]) (z := [.slice none 0 0]) (bytes := 24) (by kernel_rfl) (by decide) (by kernel_rfl) rfl rfl (by intro r hr; simp at hr; rcases hr with rfl | rfl <;> rfl)
theorem bsM3 (u v x : List Eg) : OpOb Try.prog (.bs 56 3 [0, 1, 2]) [tit (vgI u), tit (vgI v), tit (vgI x)] (tit (slI 1 ([u, v, x].map rowM))) :=
  bs_ob (e := 23) (cts := [.one (.b (.it (vgI u))), .one (.b (.it (vgI v))), .one (.b (.it (vgI x)))]) (z := [.slice none 0 0]) (bytes := 24) (by kernel_rfl) (by decide) (by kernel_rfl) rfl rfl (by intro r hr; simp at hr; rcases hr with rfl | rfl | rfl <;> rfl)
/-- what a law may say of a vector that passed -/
structure OkV (v : List Eg) : Prop where
  len : v.length ≤ 60
  ok : ∀ e ∈ v, okF e.2 = true
  mem : MemV v
theorem OkV.le {v : List Eg} (h : OkV v) : CTle (.one (.b (.it (vgI v)))) (.one (.b (.it (vecI false 12 (vv v))))) := (vec_le h.ok h.mem).x.one
theorem light1_cases {I : WInv} (u : List Eg) (hu : MemV u) : ∃ b, Sp Try.prog I 10 [.one (.b (.it (slI 1 ([u].map rowM))))] (lb b) ∧ (b = true → OkV u) := by
  have hm : ∀ x ∈ [u], MemV x := by intro x hx; simp at hx; subst hx; exact hu
  refine ⟨_, light3_sp (I := I) [u] hm (by simp), fun h => ?_⟩
  obtain ⟨_, hall⟩ := light_ok h hm
  exact ⟨(hall u (by simp)).1, (hall u (by simp)).2, hu⟩
theorem light2_cases {I : WInv} (u v : List Eg) (hu : MemV u) (hv : MemV v) : ∃ b, Sp Try.prog I 10 [.one (.b (.it (slI 1 ([u, v].map rowM))))] (lb b) ∧ (b = true → OkV u ∧ OkV v) := by
  have hm : ∀ x ∈ [u, v], MemV x := by intro x hx; simp at hx; rcases hx with rfl | rfl <;> assumption
  refine ⟨_, light3_sp (I := I) [u, v] hm (by simp), fun h => ?_⟩
  obtain ⟨_, hall⟩ := light_ok h hm
  exact ⟨⟨(hall u (by simp)).1, (hall u (by simp)).2, hu⟩, ⟨(hall v (by simp)).1, (hall v (by simp)).2, hv⟩⟩
theorem light3_cases {I : WInv} (u v x : List Eg) (hu : MemV u) (hv : MemV v) (hx : MemV x) : ∃ b, Sp Try.prog I 10 [.one (.b (.it (slI 1 ([u, v, x].map rowM))))] (lb b) ∧ (b = true → OkV u ∧ OkV v ∧ OkV x) := by
  have hm : ∀ y ∈ [u, v, x], MemV y := by intro y hy; simp at hy; rcases hy with rfl | rfl | rfl <;> assumption
  refine ⟨_, light3_sp (I := I) [u, v, x] hm (by simp), fun h => ?_⟩
  obtain ⟨_, hall⟩ := light_ok h hm
  exact ⟨⟨(hall u (by simp)).1, (hall u (by simp)).2, hu⟩, ⟨(hall v (by simp)).1, (hall v (by simp)).2, hv⟩, ⟨(hall x (by simp)).1, (hall x (by simp)).2, hx⟩⟩
theorem frac1_cases {I : WInv} (p : Fg) (hp : W2 p) (mp : Mem p) : ∃ b, Sp Try.prog I 19 [.one (.b (.it (slI 4 (rowsF [p]))))] (lb b) ∧ (b = true → okF p = true) := by
  refine ⟨_, light2_sp (I := I) [p] (by intro x hx; simp at hx; subst hx; exact mp) (by simp) _ rfl, fun h => ?_⟩
  simp at h
  exact h
theorem fracs_cases {I : WInv} (l : List Fg) (hl : ∀ p ∈ l, W2 p ∧ Mem p) (hn : l.length ≤ 35184372087808) : ∃ b, Sp Try.prog I 19 [.one (.b (.it (slI 4 (rowsF l))))] (lb b) ∧ (b = true → (∀ p ∈ l, okF p = true) ∧ l.length < 20) := by
  refine ⟨_, light2_sp (I := I) l (fun p hp => (hl p hp).2) hn _ rfl, fun h => ?_⟩
  simp only [Bool.and_eq_true, List.all_eq_true, decide_eq_true_eq] at h
  exact h
theorem small_ok {n : Int} (h : smallB n = true) : n ≤ 60 ∨ 4096 < n := by
  unfold smallB at h
  simpa using h
theorem valid_nat {n : Int} {v : Ve} (h : smallB n = true) (h0 : vcode n v = 0) : ∃ m : Nat, n = (m : Int) ∧ m ≤ 60 := by
  have hd := (val_of h0).dim
  have := small_ok h
  exact ⟨n.toNat, by omega, by omega⟩
section
variable {I : WInv} {k j : Nat}
theorem samev_sp (v : Ve) (hl : v.length ≤ 1000000000) : Sp Try.prog I 28 [.one (.b (.it (vecI true k v))), .one (.b (.it (vecI true j v)))] (lb true) := by
  have s := sameVec_sp (I := I) (k := k) (j := j) v hl
  exact sp_run (nt := 8) 1000 [po (s)] (by kernel_rfl)
theorem samev_nil : Sp Try.prog I 28 [.one (.b (.lit (.slice none 0 0))), .one (.b (.lit (.slice none 0 0)))] (lb true) :=
  (samev_sp (I := I) (k := 1) (j := 1) [] (by simp)).wk ⟨nil_slI, nil_slI, trivial⟩
end

/-! ### sums -/
def sumr (n : Nat) (f : Nat → Rat) : Rat := match n with
  | 0 => 0
  | n + 1 => sumr n f + f n
theorem sumr_congr {f g : Nat → Rat} : ∀ {n : Nat}, (∀ i, i < n → f i = g i) → sumr n f = sumr n g
  | 0, _ => rfl
  | n + 1, h => by rw [sumr, sumr, sumr_congr fun i hi => h i (by omega), h n (by omega)]
theorem sumr_add (f g : Nat → Rat) : ∀ n, sumr n (fun i => f i + g i) = sumr n f + sumr n g
  | 0 => (Rat.add_zero _).symm
  | n + 1 => by rw [sumr, sumr, sumr, sumr_add f g n]; grind
theorem sumr_mul (c : Rat) (f : Nat → Rat) : ∀ n, sumr n (fun i => c * f i) = c * sumr n f
  | 0 => (Rat.mul_zero _).symm
  | n + 1 => by rw [sumr, sumr, sumr_mul c f n]; grind
theorem sumr_zero : ∀ n, sumr n (fun _ => 0) = 0
  | 0 => rfl
  | n + 1 => by rw [sumr, sumr_zero n, Rat.add_zero]
theorem sumr_cut {f : Nat → Rat} {t : Nat} : ∀ {m : Nat}, t ≤ m → (∀ y, t ≤ y → y < m → f y = 0) → sumr m f = sumr t f := by
  intro m
  induction m with
  | zero => intro h _; rw [Nat.le_zero.1 h]
  | succ m ih =>
    intro h hz
    by_cases e : t = m + 1
    · rw [e]
    · rw [sumr, hz m (by omega) (by omega), Rat.add_zero, ih (by omega) fun y h1 h2 => hz y h1 (by omega)]
/-- the index where entry number i begins -/
def vix (v : Ve) (n i : Nat) : Nat := if i < v.length then (vat v i).1.toNat else n
theorem dsum_sum {n : Nat} {a b : Ve} (ha : Val (n : Int) a) : dsum a b a.length = sumr n fun x => atq a (x : Int) * atq b (x : Int) := by
  have key : ∀ i, i ≤ a.length → sumr (vix a n i) (fun x => atq a (x : Int) * atq b (x : Int)) = dsum a b i := by
    intro i
    induction i with
    | zero =>
      intro _
      have : sumr (vix a n 0) (fun x => atq a (x : Int) * atq b (x : Int)) = sumr 0 (fun x => atq a (x : Int) * atq b (x : Int)) := sumr_cut (Nat.zero_le _) fun y _ hy => by
        have h0 : vlow a 0 = 0 := ha.low_zero
        have := (ha.skip (t := 0) (y := (y : Int)) (by omega) fun h => by
          rw [h0] at h ⊢
          unfold vix at hy
          rw [if_pos h] at hy
          have := ha.ge 0 h
          omega).1
        rw [this, Rat.zero_mul]
      rw [this]; rfl
    | succ i ih =>
      intro hi
      have hi' : i < a.length := hi
      have h1 := ih (by omega)
      have g1 := ha.ge i hi'
      have g2 := ha.lt i hi'
      have e1 : vix a n i = (vat a i).1.toNat := by unfold vix; rw [if_pos hi']
      have hx : ((vat a i).1.toNat : Int) = (vat a i).1 := by omega
      have hlow : vlow a (vat a i).1 = i := vlow_eq (by omega) (fun x hx => ha.asc x i hx hi') fun _ => Int.le_refl _
      have hat := at_low (v := a) (t := (vat a i).1) (by rw [hlow]; exact hi') (by rw [hlow])
      rw [hlow] at hat
      have hle : vix a n i + 1 ≤ vix a n (i + 1) := by
        unfold vix
        rw [if_pos hi']
        by_cases h2 : i + 1 < a.length
        · rw [if_pos h2]
          have := ha.asc i (i + 1) (by omega) h2
          omega
        · rw [if_neg h2]; omega
      have e2 : sumr (vix a n (i + 1)) (fun x => atq a (x : Int) * atq b (x : Int)) = sumr (vix a n i + 1) (fun x => atq a (x : Int) * atq b (x : Int)) := sumr_cut hle fun y hy1 hy2 => by
        have hl2 : vlow a ((vat a i).1 + 1) = i + 1 := by
          have := ha.low_next (t := (vat a i).1) (by rw [hlow]; exact hi') (by rw [hlow])
          rw [hlow] at this
          exact this
        have := (ha.skip (t := (vat a i).1 + 1) (y := (y : Int)) (by omega) fun h => by
          rw [hl2] at h ⊢
          unfold vix at hy2
          rw [if_pos h] at hy2
          omega).1
        rw [this, Rat.zero_mul]
      rw [e2, sumr, h1, e1, hx, hat]
      rfl
  have := key a.length (Nat.le_refl _)
  unfold vix at this
  rw [if_neg (Nat.lt_irrefl _)] at this
  exact this.symm
theorem val_code {n : Int} {v : Ve} (h : Val n v) : vcode n v = 0 := by
  unfold vcode
  rw [if_neg (by have := h.dim; omega)]
  refine findc_zero.2 fun i _ hi => ?_
  have hi : i < v.length := by omega
  unfold vchk
  rw [if_neg (by have := h.ge i hi; have := h.lt i hi; omega), if_neg (fun hh => by have := h.asc (i - 1) i (by omega) hi; omega), if_neg (h.nz i hi)]
theorem vat_left {v w : Ve} {i : Nat} (h : i < v.length) : vat (v ++ w) i = vat v i := by unfold vat; rw [List.getD_eq_getElem?_getD, List.getD_eq_getElem?_getD, List.getElem?_append_left h]
theorem vat_last {v : Ve} {x : Int × Rat} : vat (v ++ [x]) v.length = x := by unfold vat; rw [List.getD_eq_getElem?_getD, List.getElem?_append_right (Nat.le_refl _)]; simp
theorem spf_val (f : Nat → Rat) : ∀ {n : Nat}, n ≤ 4096 → Val (n : Int) (spf f n) := by
  intro n
  induction n with
  | zero => intro _; exact ⟨by omega, fun i hi => by simp [spf] at hi, fun i hi => by simp [spf] at hi, fun i j _ hj => by simp [spf] at hj, fun i hi => by simp [spf] at hi⟩
  | succ n ih =>
    intro hn
    have h := ih (by omega)
    by_cases h0 : f n = 0
    · rw [spf_zero h0]
      exact ⟨by omega, h.ge, fun i hi => by have := h.lt i hi; omega, h.asc, h.nz⟩
    · rw [spf_succ h0]
      have one : ∀ i, i < (spf f n ++ [((n : Int), f n)]).length → (i < (spf f n).length ∧ vat (spf f n ++ [((n : Int), f n)]) i = vat (spf f n) i) ∨ (i = (spf f n).length ∧ vat (spf f n ++ [((n : Int), f n)]) i = ((n : Int), f n)) := by
        intro i hi
        rw [List.length_append, List.length_singleton] at hi
        by_cases hl : i < (spf f n).length
        · exact .inl ⟨hl, vat_left hl⟩
        · have e : i = (spf f n).length := by omega
          subst e
          exact .inr ⟨rfl, vat_last⟩
      refine ⟨by omega, fun i hi => ?_, fun i hi => ?_, fun i j hij hj => ?_, fun i hi => ?_⟩
      · rcases one i hi with ⟨hl, e⟩ | ⟨_, e⟩ <;> rw [e]
        · exact h.ge i hl
        · show (0 : Int) ≤ (n : Int); omega
      · rcases one i hi with ⟨hl, e⟩ | ⟨_, e⟩ <;> rw [e]
        · have := h.lt i hl; omega
        · show (n : Int) < ((n + 1 : Nat) : Int); omega
      · rcases one j hj with ⟨hl, e⟩ | ⟨hl, e⟩
        · rcases one i (by omega) with ⟨_, e2⟩ | ⟨hl2, _⟩
          · rw [e, e2]; exact h.asc i j hij hl
          · omega
        · rcases one i (by omega) with ⟨hl2, e2⟩ | ⟨hl2, _⟩
          · rw [e, e2]; exact h.lt i hl2
          · omega
      · rcases one i hi with ⟨hl, e⟩ | ⟨_, e⟩ <;> rw [e]
        · exact h.nz i hl
        · exact h0
theorem spf_mem {f : Nat → Rat} {n : Nat} {x : Int} {q : Rat} : (x, q) ∈ spf f n ↔ ∃ i : Nat, i < n ∧ x = (i : Int) ∧ q = f i ∧ f i ≠ 0 := by
  unfold spf
  rw [List.mem_filterMap]
  constructor
  · rintro ⟨i, hi, he⟩
    by_cases h : f i = 0
    · rw [if_pos h] at he; cases he
    · rw [if_neg h] at he
      injection he with he
      injection he with h1 h2
      exact ⟨i, List.mem_range.1 hi, h1.symm, h2.symm, h⟩
  · rintro ⟨i, hi, rfl, rfl, h⟩
    exact ⟨i, List.mem_range.2 hi, by rw [if_neg h]⟩
theorem atq_mem {n : Int} {v : Ve} (hv : Val n v) {x : Int} {q : Rat} (h : (x, q) ∈ v) : atq v x = q := by
  obtain ⟨i, hi, e⟩ := List.getElem_of_mem h
  have e2 : vat v i = (x, q) := by rw [vat_get hi, e]
  have := hv.vfi_of hi
  rw [e2] at this
  unfold atq
  rw [this, e2]
theorem atq_not {v : Ve} {x : Int} (h : ∀ q, (x, q) ∉ v) : atq v x = 0 := atq_none fun hl => by
  have h1 := vfi_at hl
  have h2 : vat v (vfi v x) ∈ v := by rw [vat_get hl]; exact List.getElem_mem hl
  have e : vat v (vfi v x) = (x, (vat v (vfi v x)).2) := Prod.ext h1 rfl
  exact h (vat v (vfi v x)).2 (e ▸ h2)
theorem spf_at {f : Nat → Rat} {n x : Nat} (hn : n ≤ 4096) (hx : x < n) : atq (spf f n) (x : Int) = f x := by
  by_cases h : f x = 0
  · rw [h]
    refine atq_not fun q hq => ?_
    obtain ⟨i, _, e, _, h2⟩ := spf_mem.1 hq
    have : x = i := by omega
    subst this
    exact h2 h
  · exact atq_mem (spf_val f hn) (spf_mem.2 ⟨x, hx, rfl, rfl, h⟩)
theorem spf_self {n : Nat} {v : Ve} (hv : Val (n : Int) v) : spf (fun i => atq v (i : Int)) n = v := by
  have key : ∀ t : Nat, spf (fun i => atq v (i : Int)) t = v.take (vlow v (t : Int)) := by
    intro t
    induction t with
    | zero => rw [show vlow v ((0 : Nat) : Int) = 0 from hv.low_zero]; rfl
    | succ t ih =>
      by_cases h : vlow v (t : Int) < v.length ∧ (vat v (vlow v (t : Int))).1 = (t : Int)
      · have e := at_low h.1 h.2
        have e2 : vlow v ((t + 1 : Nat) : Int) = vlow v (t : Int) + 1 := hv.low_next h.1 h.2
        have h0 : ¬ atq v (t : Int) = 0 := by rw [e]; exact hv.nz _ h.1
        rw [spf_succ (f := fun i : Nat => atq v (i : Int)) h0, ih, e2, List.take_succ_eq_append_getElem h.1]
        congr 1
        rw [← vat_get h.1]
        have e3 : ((t : Int), atq v (t : Int)) = vat v (vlow v (t : Int)) := Prod.ext h.2.symm e
        rw [e3]
      · have e := hv.at_none h
        have e2 : vlow v ((t + 1 : Nat) : Int) = vlow v (t : Int) := low_stay h
        rw [spf_zero (f := fun i : Nat => atq v (i : Int)) e, ih, e2]
  rw [key, vlow_eq (v := v) (t := (n : Int)) (j := v.length) (Nat.le_refl _) (fun x hx => hv.lt x hx) (fun h => absurd h (Nat.lt_irrefl _)), List.take_length]
end Go.Proofs.Ytpampkliahopdaa

/- Walk of SparseLinear. -/
namespace Go.Proofs.Ytpampkliahopdaa
open Go Go.RowKit
set_option linter.unusedVariables false
set_option linter.unusedSimpArgs false

theorem lin_eq {m : Nat} {a b c : Ve} {s : Rat} (hm : m ≤ 60) (ha : Val (m : Int) a) (hb : Val (m : Int) b) (hc : Val (m : Int) c) :
    dsum (spf (msum a b s) m) c (spf (msum a b s) m).length = dsum a c a.length + s * dsum b c b.length ∧ dsum (spf (msum a b s) m) c (spf (msum a b s) m).length = dsum c (spf (msum a b s) m) c.length := by
  have hs : Val (m : Int) (spf (msum a b s) m) := spf_val _ (by omega)
  rw [dsum_sum hs, dsum_sum ha, dsum_sum hb, dsum_sum hc]
  have e : sumr m (fun x => atq (spf (msum a b s) m) (x : Int) * atq c (x : Int)) = sumr m (fun x => atq a (x : Int) * atq c (x : Int) + s * (atq b (x : Int) * atq c (x : Int))) := sumr_congr fun i hi => by
    rw [spf_at (by omega) hi]
    unfold msum
    grind
  refine ⟨?_, sumr_congr fun i hi => Rat.mul_comm _ _⟩
  rw [e, sumr_add, sumr_mul]

section
variable {I : WInv}
theorem lin_law (u v x : List Eg) (p : Fg) (n : Int) (hu : MemV u) (hv : MemV v) (hx : MemV x) (hp : W2 p) (mp : Mem p) : Sp Try.prog I 5 [.one (.b (.it (vgI u))), .one (.b (.it (vgI v))), .one (.b (.it (vgI x))), .ag (frl p), ci n] (lb true) := by
  obtain ⟨b1, l1, ok1⟩ := light3_cases (I := I) u v x hu hv hx
  obtain ⟨b2, l2, ok2⟩ := frac1_cases (I := I) p hp mp
  have l3 := small_sp (I := I) n
  cases b1 with
  | false => exact sp_run (nt := 126) 1000 [pk (bsM3 u v x), po (l1), ⟨.auto, trivial⟩, po (awakev_sp)] (by kernel_rfl)
  | true =>
    obtain ⟨k1, k2, k3⟩ := ok1 rfl
    cases b2 with
    | false => exact sp_run (nt := 126) 1000 [pk (bsM3 u v x), po (l1), ⟨.auto, trivial⟩, pk (bs1_frac p), po (l2), ⟨.auto, trivial⟩, po (awakev_sp)] (by kernel_rfl)
    | true =>
      have hok := ok2 rfl
      cases hs : smallB n with
      | false =>
        rw [hs] at l3
        exact sp_run (nt := 126) 1000 [pk (bsM3 u v x), po (l1), ⟨.auto, trivial⟩, pk (bs1_frac p), po (l2), ⟨.auto, trivial⟩, po (l3), ⟨.auto, trivial⟩, po (awakev_sp)] (by kernel_rfl)
      | true =>
        rw [hs] at l3
        have n1 : (vv u).length ≤ 60 := by rw [vv_len]; exact k1.len
        have n2 : (vv v).length ≤ 60 := by rw [vv_len]; exact k2.len
        have n3 : (vv x).length ≤ 60 := by rw [vv_len]; exact k3.len
        have va := (rvalidate_sp (I := I) (c := false) (k := 12) (vv u) n (by omega) (by omega)).wk (args' := [.one (.b (.it (vgI u))), ci n]) ⟨k1.le, CTle.refl, trivial⟩
        have vb := (rvalidate_sp (I := I) (c := false) (k := 12) (vv v) n (by omega) (by omega)).wk (args' := [.one (.b (.it (vgI v))), ci n]) ⟨k2.le, CTle.refl, trivial⟩
        have vc := (rvalidate_sp (I := I) (c := false) (k := 12) (vv x) n (by omega) (by omega)).wk (args' := [.one (.b (.it (vgI x))), ci n]) ⟨k3.le, CTle.refl, trivial⟩
        by_cases h1 : vcode n (vv u) = 0
        · rw [h1] at va
          by_cases h2 : vcode n (vv v) = 0
          · rw [h2] at vb
            by_cases h3 : vcode n (vv x) = 0
            · rw [h3] at vc
              obtain ⟨m, rfl, hm⟩ := valid_nat hs h1
              have bc : ∀ {a b : Ve}, vcode (m : Int) a = 0 → vcode (m : Int) b = 0 → bcode (m : Int) a b = 0 := fun h h' => by unfold bcode; rw [if_pos h, h']
              have lin := lin_eq (s := vq p) hm (val_of h1) (val_of h2) (val_of h3)
              have sl := spf_len (msum (vv u) (vv v) (vq p)) m
              have sv : vcode (m : Int) (spf (msum (vv u) (vv v) (vq p)) m) = 0 := val_code (spf_val _ (by omega))
              have a1 := addScaled_sp (I := I) (c := false) (c' := false) (c2 := false) (k := 12) (j := 12) (kk := 12) m (vv u) (vv v) (vq p) (bc h1 h2) (by omega) (by omega) (by omega)
              generalize spf (msum (vv u) (vv v) (vq p)) m = s at *
              have d1 := dot_sp (I := I) (c := true) (c' := false) (k := 12 + 12 + 12 + 1) (j := 12) (m : Int) s (vv x) (bc sv h3) (Nat.le_trans (dB_mono (show s.length ≤ 60 by omega)) (by decide)) (by omega) (by omega) (by omega) (by omega)
              have d2 := dot_sp (I := I) (c := false) (c' := false) (k := 12) (j := 12) (m : Int) (vv u) (vv x) (bc h1 h3) (Nat.le_trans (dB_mono n1) (by decide)) (by omega) (by omega) (by omega) (by omega)
              have d3 := dot_sp (I := I) (c := false) (c' := false) (k := 12) (j := 12) (m : Int) (vv v) (vv x) (bc h2 h3) (Nat.le_trans (dB_mono n2) (by decide)) (by omega) (by omega) (by omega) (by omega)
              have d4 := dot_sp (I := I) (c := false) (c' := true) (k := 12) (j := 12 + 12 + 12 + 1) (m : Int) (vv x) s (bc h3 sv) (Nat.le_trans (dB_mono n3) (by decide)) (by omega) (by omega) (by omega) (by omega)
              have q1 := lin.1
              have q2 := lin.2
              have B2 : dB (12 + 12 + 1) (vv v).length ≤ 100000 := Nat.le_trans (dB_mono n2) (by decide)
              have B3 : dB (12 + 12 + 1) (vv u).length ≤ 100000 := Nat.le_trans (dB_mono n1) (by decide)
              exact sp_run (nt := 126) 1000 [pk (bsM3 u v x), po (l1), ⟨.auto, trivial⟩, pk (bs1_frac p), po (l2), ⟨.auto, trivial⟩, po (l3), ⟨.auto, trivial⟩, po (va), ⟨.auto, trivial⟩, po (vb), ⟨.auto, trivial⟩, po (vc), ⟨.auto, trivial⟩, pm ((show Leads I _ ⟨[(0, .cv (.one (.b (.it (vgI u))))), (1, .cv (.one (.b (.it (vgI v))))), (2, .cv (.one (.b (.it (vgI x))))), (4, .cv (.one (.b (.lit (.int .i64 (m : Int)))))), (8, .cv (.one (.ptr 0 0))), (10, .cv (.one (.b (.lit (.bool false))))), (26, .cv (.one (.b (.lit (.bool true))))), (27, .cv (.one (.b (.lit (.bool false))))), (28, .cv (.one (.b (.lit (.bool false))))), (31, .cv (.one (.b (.lit (.bool true))))), (32, .cv (.one (.b (.lit (.bool false))))), (33, .cv (.one (.b (.lit (.bool false))))), (34, .cv (.one (.b (.lit (.bool false))))), (36, .cv (.one (.b (.lit (.bool true))))), (37, .cv (.one (.b (.lit (.bool false))))), (38, .cv (.one (.b (.lit (.bool false))))), (39, .cv (.one (.b (.lit (.bool false))))), (43, .cv (.one (.b (.lit (.bool false))))), (44, .cv (.one (.b (.lit (.bool false))))), (45, .cv (.one (.b (.lit (.bool false))))), (49, .cv (.one (.b (.lit (.bool false))))), (50, .cv (.one (.b (.lit (.bool false))))), (51, .cv (.one (.b (.lit (.bool false))))), (55, .cv (.one (.b (.lit (.bool false))))), (56, .cv (.one (.b (.lit (.bool false)))))], [(0, some ⟨39, none, [.b (.lit (.bool p.1.1)), .b (.it (DS p.1.2)), .b (.lit (.bool p.2.1)), .b (.it (DS p.2.2))]⟩)], 37⟩ ⟨[(0, .cv (.one (.b (.it (vecI false 12 (vv u)))))), (1, .cv (.one (.b (.it (vecI false 12 (vv v)))))), (2, .cv (.one (.b (.it (vecI false 12 (vv x)))))), (4, .cv (.one (.b (.lit (.int .i64 (m : Int)))))), (8, .cv (.one (.ptr 0 0))), (10, .cv (.one (.b (.lit (.bool false))))), (26, .cv (.one (.b (.lit (.bool true))))), (27, .cv (.one (.b (.lit (.bool false))))), (28, .cv (.one (.b (.lit (.bool false))))), (31, .cv (.one (.b (.lit (.bool true))))), (32, .cv (.one (.b (.lit (.bool false))))), (33, .cv (.one (.b (.lit (.bool false))))), (34, .cv (.one (.b (.lit (.bool false))))), (36, .cv (.one (.b (.lit (.bool true))))), (37, .cv (.one (.b (.lit (.bool false))))), (38, .cv (.one (.b (.lit (.bool false))))), (39, .cv (.one (.b (.lit (.bool false))))), (43, .cv (.one (.b (.lit (.bool false))))), (44, .cv (.one (.b (.lit (.bool false))))), (45, .cv (.one (.b (.lit (.bool false))))), (49, .cv (.one (.b (.lit (.bool false))))), (50, .cv (.one (.b (.lit (.bool false))))), (51, .cv (.one (.b (.lit (.bool false))))), (55, .cv (.one (.b (.lit (.bool false))))), (56, .cv (.one (.b (.lit (.bool false)))))], [(0, some ⟨39, none, [.b (.it (fF false 12 (vq p)))]⟩)], 37⟩ from weak_leads ⟨rfl, k1.le.tv, rfl, k2.le.tv, rfl, k3.le.tv, rfl, TVle.refl, rfl, TVle.refl, rfl, TVle.refl, rfl, TVle.refl, rfl, TVle.refl, rfl, TVle.refl, rfl, TVle.refl, rfl, TVle.refl, rfl, TVle.refl, rfl, TVle.refl, rfl, TVle.refl, rfl, TVle.refl, rfl, TVle.refl, rfl, TVle.refl, rfl, TVle.refl, rfl, TVle.refl, rfl, TVle.refl, rfl, TVle.refl, rfl, TVle.refl, rfl, TVle.refl, rfl, TVle.refl, rfl, TVle.refl, trivial⟩ ⟨rfl, rfl, rfl, (frl_ile hok hp), trivial⟩)), po (a1), po (d1), po (d2), po (d3), po (d4), po (rmulF (I := I) (c := false) (c' := true) (k := 12) (j := dB (12 + 12 + 1) (vv v).length) (p := vq p) (q := dsum (vv v) (vv x) (vv v).length) (by omega)), po (raddF (I := I) (c := true) (c' := true) (k := dB (12 + 12 + 1) (vv u).length) (j := 12 + (dB (12 + 12 + 1) (vv v).length)) (p := dsum (vv u) (vv x) (vv u).length) (q := (vq p) * (dsum (vv v) (vv x) (vv v).length)) (by omega)), ⟨.auto, trivial⟩, ⟨.auto, trivial⟩, ⟨.auto, trivial⟩, ⟨.auto, trivial⟩, po (sameFracF_eq (I := I) (k := dB (12 + 12 + 12 + 1 + 12 + 1) (s).length) (j := dB (12 + 12 + 1) (vv u).length + (12 + (dB (12 + 12 + 1) (vv v).length)) + 1) (p := dsum s (vv x) (s).length) (q := (dsum (vv u) (vv x) (vv u).length) + ((vq p) * (dsum (vv v) (vv x) (vv v).length))) q1), po (sameFracF_eq (I := I) (k := dB (12 + 12 + 12 + 1 + 12 + 1) (s).length) (j := dB (12 + (12 + 12 + 12 + 1) + 1) (vv x).length) (p := dsum s (vv x) (s).length) (q := dsum (vv x) s (vv x).length) q2), po (awakev_sp)] (by kernel_rfl)
            · exact sp_run (nt := 126) 1000 [pk (bsM3 u v x), po (l1), ⟨.auto, trivial⟩, pk (bs1_frac p), po (l2), ⟨.auto, trivial⟩, po (l3), ⟨.auto, trivial⟩, po (va), ⟨.auto, trivial⟩, po (vb), ⟨.auto, trivial⟩, po (vc), pk (b_neq 26 (vcode n (vv x)) 0 true (decide_eq_false h3)), po (awakev_sp)] (by kernel_rfl)
          · exact sp_run (nt := 126) 1000 [pk (bsM3 u v x), po (l1), ⟨.auto, trivial⟩, pk (bs1_frac p), po (l2), ⟨.auto, trivial⟩, po (l3), ⟨.auto, trivial⟩, po (va), ⟨.auto, trivial⟩, po (vb), pk (b_neq 26 (vcode n (vv v)) 0 true (decide_eq_false h2)), po (awakev_sp)] (by kernel_rfl)
        · exact sp_run (nt := 126) 1000 [pk (bsM3 u v x), po (l1), ⟨.auto, trivial⟩, pk (bs1_frac p), po (l2), ⟨.auto, trivial⟩, po (l3), ⟨.auto, trivial⟩, po (va), pk (b_neq 26 (vcode n (vv u)) 0 true (decide_eq_false h1)), po (awakev_sp)] (by kernel_rfl)
theorem law_SparseLinear (w : World) {y1 y2 y3 y4 : Value} {u v x : List Eg} {p : Fg} (h1 : AVec w y1 u) (h2 : AVec w y2 v) (h3 : AVec w y3 x) (h4 : AFrac w y4 p) (n : Int) (wn : (Lit.int .i64 n).wf = true) : Calls Try.prog 5 #[y1, y2, y3, y4, .int .i64 n] w (RetV w (.bool true)) :=
  law_any (I := WInv.none) (lin_law u v x p n h1.1 h2.1 h3.1 h4.1 h4.2.1) trivial ⟨_, _, rfl, h1.2, _, _, rfl, h2.2, _, _, rfl, h3.2, _, _, rfl, h4.2.2, _, _, rfl, rfl, rfl⟩
end
end Go.Proofs.Ytpampkliahopdaa

/- SparseLinear: for every input the law's Go function returns true, and every argument reads afterwards as it read before. No condition. -/
namespace Go.Proofs.Ytpampkliahopdaa.sparseLinear
open Go.ChangeShapes Go.WideShapes Go.ChangeAt Go.RowKit
open Go.ChangeMaps (open_string shut_string)
set_option linter.unusedVariables false

theorem own : ownKnob Try.prog.godebug = none := by kernel_rfl
theorem laidOut : laidOutB Try.prog = true := by kernel_rfl

set_option maxRecDepth 100000 in
theorem lifted (os : Os) (started : os.Started) (H : Type) (enc : TypeId × Value → H) :
    ReturnsInHanded {} Try.checked os 5 .any (Rows.sparseLinearSpec.pre6 enc Try.prog Try.f5 Rows.sparseLinearRow.domain false) (Rows.sparseLinearSpec.post enc Try.prog Try.f5 false true false false) := by
  refine returnsSized (C := Try.checked) own started (by kernel_rfl) Try.func5
    (ChangeSpec.witness6 (enc := enc) (C := Try.checked) false ⟨#[], #[.slice none 0 0, .slice none 0 0, .slice none 0 0, .agg #[.bool false, .slice none 0 0, .bool false, .slice none 0 0], .int .i64 0], []⟩ 8 (by kernel_rfl) (by kernel_rfl) (by kernel_rfl) (by kernel_rfl)) ?_
  intro W base args ds gs before hval0 hW hcnd hsz0 _ _
  have hval : ∀ (j : Nat) t v, Try.f5.params[j]? = some t → args[j]? = some v → Value.okWide Try.prog W .any base t v := hval0
  have hsz : (DataW.weightsEach Try.prog (Try.f5.params.toList ++ Rows.sparseLinearSpec.plain.varTypes Try.prog) (ds ++ gs)).all (· ≤ reachBytes) = true := hsz0
  have hW' := hW
  obtain ⟨p, q, hA0, hV, rfl, hfz, hnd⟩ := hW
  have hA : DataW.TrodAll enc Try.prog W 0 (fun _ => true) true Try.f5.params.toList args.toList ds p := hA0
  rw [Try.params5] at hA hval hsz
  obtain ⟨v0, vs0, d0, ds0, p0, q0, hargs, rfl, rfl, h0, r0⟩ := trodAll_cons hA
  obtain ⟨v1, vs1, d1, ds1, p1, q1, rfl, rfl, rfl, h1, r1⟩ := trodAll_cons r0
  obtain ⟨v2, vs2, d2, ds2, p2, q2, rfl, rfl, rfl, h2, r2⟩ := trodAll_cons r1
  obtain ⟨v3, vs3, d3, ds3, p3, q3, rfl, rfl, rfl, h3, r3⟩ := trodAll_cons r2
  obtain ⟨v4, vs4, d4, ds4, p4, q4, rfl, rfl, rfl, h4, r4⟩ := trodAll_cons r3
  obtain ⟨rfl, rfl, rfl⟩ := trodAll_nil r4
  obtain rfl : args = #[v0, v1, v2, v3, v4] := by cases args; simp_all
  obtain ⟨rfl, rfl⟩ := trodVars_none hV
  have k0 := h0
  have lt0 : ∀ x ∈ p0, x.block < W.heap.size := by obtain ⟨m, hm⟩ := k0; exact DataW.trod_lt m _ _ _ hm
  have z0 := weight_at hsz (j := 0) (t := 23) (d := d0) rfl rfl
  obtain ⟨f0, b0⟩ := argVec (hval 0 23 v0 rfl rfl) h0 z0
  have k1 := h1
  have lt1 : ∀ x ∈ p1, x.block < W.heap.size := by obtain ⟨m, hm⟩ := k1; exact DataW.trod_lt m _ _ _ hm
  have z1 := weight_at hsz (j := 1) (t := 23) (d := d1) rfl rfl
  obtain ⟨f1, b1⟩ := argVec (hval 1 23 v1 rfl rfl) h1 z1
  have k2 := h2
  have lt2 : ∀ x ∈ p2, x.block < W.heap.size := by obtain ⟨m, hm⟩ := k2; exact DataW.trod_lt m _ _ _ hm
  have z2 := weight_at hsz (j := 2) (t := 23) (d := d2) rfl rfl
  obtain ⟨f2, b2⟩ := argVec (hval 2 23 v2 rfl rfl) h2 z2
  have k3 := h3
  have lt3 : ∀ x ∈ p3, x.block < W.heap.size := by obtain ⟨m, hm⟩ := k3; exact DataW.trod_lt m _ _ _ hm
  have z3 := weight_at hsz (j := 3) (t := 39) (d := d3) rfl rfl
  obtain ⟨f3, b3⟩ := argFrac (hval 3 39 v3 rfl rfl) h3 z3
  obtain ⟨a4, rfl, rfl, rfl, w4⟩ := open_int Try.underlying3 (hval 4 3 v4 rfl rfl) h4
  clear hA0 hval0
  refine (law_SparseLinear W b0 b1 b2 b3 a4 w4).mono fun e W' ⟨he, bel⟩ => ?_
  subst he
  exact ⟨_, rfl, _, _, _, [], _, [], hW', trodAll_mk1 (shut_bool Try.underlying4 _), (trodAll_cons_mk (Below.trod laidOut (by kernel_rfl) (of_decide_eq_true (by kernel_rfl)) k0 bel lt0) (trodAll_cons_mk (Below.trod laidOut (by kernel_rfl) (of_decide_eq_true (by kernel_rfl)) k1 bel lt1) (trodAll_cons_mk (Below.trod laidOut (by kernel_rfl) (of_decide_eq_true (by kernel_rfl)) k2 bel lt2) (trodAll_cons_mk (Below.trod laidOut (by kernel_rfl) (of_decide_eq_true (by kernel_rfl)) k3 bel lt3) (trodAll_cons_mk (shut_int Try.underlying3 w4) trodAll_mk0))))), rfl, bel.frame _, fun h => by cases h⟩

theorem over : Rows.sparseLinearRow.holds Try.pinned (OpenSpec.ofChange Rows.sparseLinearSpec) :=
  OpenClaim.holds_of_wide 5 Try.f5 rfl rfl rfl rfl rfl rfl rfl ⟨rfl, rfl, rfl, rfl, rfl⟩ rfl rfl rfl rfl rfl (by kernel_rfl) Try.func5 (by kernel_rfl)
    (of_decide_eq_true (by kernel_rfl)) (by unfold Func.isWrapper; first | (rw [if_pos (by decide +kernel)]; kernel_rfl) | (rw [if_neg (by decide +kernel)]; exact ⟨rfl, rfl⟩))
    (fun os started H enc _ => lifted os started H enc)

theorem proved : Rows.SparseLinearSaid := over
end Go.Proofs.Ytpampkliahopdaa.sparseLinear
