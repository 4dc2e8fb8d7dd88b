/- JournalDecodes: for every input the law's Go function returns true, and every argument reads afterwards as it read before, where the listed package variables hold what the program's text lays; the card ties them to that text. -/
import Derived.LaidMore
import Derived.Lay
import Derived.SevenTiedAt
import Derived.Stop.Joined
import Derived.Test.YtdgbealknnmkoaaGreatDoorCards
import Derived.Test.YtdgbealknnmkoaaGreatDoorRows
import Derived.Test.YtdgbealknnmkoaaGreatDoorTie
import Derived.Test.YtdgbealknnmkoaaGreatDoorP027dd1d6
set_option linter.unusedVariables false
set_option linter.unusedSimpArgs false
namespace Go.Proofs.YtdgbealknnmkoaaGreatDoor.journalDecodes
open Go.ChangeShapes Go.WideShapes Go.ChangeAt Go.RowKit Go.Joins
open Go.ChangeMaps (open_string shut_string)
set_option maxRecDepth 100000 in
theorem tab_t {W : World} (h : laidMetH Tryz.prog Rows.journalDecodesRow.laid W) : Tab W := by
 rw [MakeChecks.laidMetH_plain _ _ _ (by kernel_rfl)] at h
 obtain ⟨ps, ⟨_, _, _, _, _, _, _, _, _, _, ⟨_, _, _, _, _, _, _, _, _, _, ⟨g, t, cs, fuel, p, q, hg, ht, hv, hd, _, _⟩, _⟩, _⟩, _, _⟩ := h;obtain rfl := Option.some.inj ((show Tryz.prog.globalNamed "internal/strconv.uint64pow10" = some 1 by kernel_rfl).symm.trans hg)
 obtain rfl := Option.some.inj ((show (Tryz.prog.globals[1]?).map (·.type) = some 233 by kernel_rfl).symm.trans ht)
 have e : Rows.laid_internal_strconv_uint64pow10 = Lib.tabData (H := Unit) .u64 Lib.pow10Tab := by kernel_rfl
 rw [e] at hd;show Lib.TabIs _ _ _ _ _;unfold Lib.TabIs;rw [hv, ← Lib.cells_of_tab (t := 233) (e := 143) (n := 20) Tryz.underlying233 Tryz.underlying143 (by kernel_rfl) (by kernel_rfl) hd]
theorem handed_shaped {H : Type} {enc : TypeId × Value → H} {C : Checked} {os : Os} {f : FuncId} {fn : Func} {s : ChangeSpec} {conds : List PathCond} {apart fresh handsOn again : Bool} {laid : World → Prop} (hl : ∀ w w' : World, w.heap = w'.heap → laid w → laid w')
  (own : ownKnob C.prog.godebug = none) (started : os.Started) (noInit : C.prog.inits.idxOf? f = none) (hfn : C.prog.funcs[f]? = some fn)
  (wit : ∃ (w : World) (tape : Tape) (i : Input), w.os = os ∧ (w.forCall tape i).Shaped C.prog ∧ i.vars = [] ∧ Input.okWide C.prog (w.forCall tape i) .any w.heap.size f i ∧ ((s.pre enc C.prog fn conds apart (w.forCall tape i).memory i.args ∧ laid (w.forCall tape i).memory) ∧ sizedMet enc C.prog fn (OpenSpec.ofChange s) apart (w.forCall tape i).memory i.args) ∧ ({} : Assume).holds C.prog (lone (Frame.enter C.prog f i.args .normal) [] (w.forCall tape i)))
  (body : ∀ (W : World) (base : Nat) (args : Array Value) (ds gs : List (DataW H)) (before : List MemPlace), (∀ (j : Nat) t v, fn.params[j]? = some t → args[j]? = some v → Value.okWide C.prog W .any base t v) → DataW.Whole enc C.prog fn.params.toList s.vars apart W args.toList ds gs before → conds.all (PathCond.test C.prog ⟨fn.params.toList, ds, s.plain.varTypes C.prog, gs⟩) = true → (DataW.weightsEach C.prog (fn.params.toList ++ s.plain.varTypes C.prog) (ds ++ gs)).all (· ≤ reachBytes) = true → laid W → W.ShapedOpen C.prog →
   Calls C.prog f args W fun e W' => ∃ v, e = .returned v ∧ s.post enc C.prog fn apart fresh handsOn again W args v W') :
  ReturnsInHanded {} C os f .any (fun w args => (s.pre enc C.prog fn conds apart w args ∧ laid w) ∧ sizedMet enc C.prog fn (OpenSpec.ofChange s) apart w args) (s.post enc C.prog fn apart fresh handsOn again) := by
 refine returnsInHanded_of_calls own started noInit wit fun w tape i _ shape _ ok pre _ => ?_
 obtain ⟨_, _, _, fn', e, _, _, _, _, vals⟩ := ok;obtain rfl : fn' = fn := Option.some.inj (e.symm.trans hfn);obtain ⟨⟨⟨ds, gs, before, whole, cs⟩, lw⟩, sz⟩ := pre;refine (body (w.forCall tape i) w.heap.size i.args ds gs before vals (DataW.Whole.of_heap (w' := w.forCall tape i) (by rfl) whole) cs (sz.weights whole) (hl _ _ (by rfl) lw) shape).mono fun e W' h => ?_
 obtain ⟨v, rfl, h⟩ := h;exact ChangeSpec.post_blind h
theorem own : ownKnob Tryz.prog.godebug = none := by kernel_rfl
theorem laidOut : laidOutB Tryz.prog = true := by kernel_rfl
set_option maxRecDepth 100000 in
theorem lifted (os : Os) (started : os.Started) (H : Type) (enc : TypeId × Value → H) :
  ReturnsInHanded {} Tryz.checked os 4 .any (fun w args => (Rows.journalDecodesSpec.pre enc Tryz.prog Tryz.f4 Rows.journalDecodesRow.domain false w args ∧ laidMetH Tryz.prog Rows.journalDecodesRow.laid w) ∧ sizedMet enc Tryz.prog Tryz.f4 (OpenSpec.ofChange Rows.journalDecodesSpec) false w args)
   (Rows.journalDecodesSpec.post enc Tryz.prog Tryz.f4 false true false false) := by
 refine handed_shaped (C := Tryz.checked) (laid := fun w => laidMetH Tryz.prog Rows.journalDecodesRow.laid w) (fun _ _ hh h => h.of_heap hh) own started (by kernel_rfl) Tryz.func4
  (ChangeSpec.witness_shaped (enc := enc) (C := Tryz.checked) (os := os) (X := fun w _ => laidMetH Tryz.prog Rows.journalDecodesRow.laid w) false (World.laidAll Tryz.prog os Rows.journalDecodesRow.laid) #[.slice none 0 0, .slice none 0 0, .int .i64 0] 8 (World.laidAll_os _ _ _)
   (World.shaped_of_ZipB (by kernel_rfl) (by kernel_rfl)) (by kernel_rfl) (by kernel_rfl) (by kernel_rfl)
   (by rw [MakeChecks.laidMetH_plain _ _ _ (by kernel_rfl)]; exact laidMet_laidAll _ (by kernel_rfl) (by kernel_rfl))) ?_
 intro W base args ds gs before hval0 hW hcnd hsz0 hL hshape;have hval : ∀ (j : Nat) t v, Tryz.f4.params[j]? = some t → args[j]? = some v → Value.okWide Tryz.prog W .any base t v := hval0;have hsz : (DataW.weightsEach Tryz.prog (Tryz.f4.params.toList ++ Rows.journalDecodesSpec.plain.varTypes Tryz.prog) (ds ++ gs)).all (· ≤ reachBytes) = true := hsz0;have hT : Tab W := tab_t hL;have hW' := hW;obtain ⟨p, q, hA0, hV, rfl, hfz, hnd⟩ := hW;have hA : DataW.TrodAll enc Tryz.prog W 0 (fun _ => true) true Tryz.f4.params.toList args.toList ds p := hA0
 rw [Tryz.params4] at hA hval hsz;obtain ⟨v0, vs0, d0, ds0, p0, q0, hargs, rfl, rfl, h0, r0⟩ := trodAll_cons hA;obtain ⟨v1, vs1, d1, ds1, p1, q1, rfl, rfl, rfl, h1, r1⟩ := trodAll_cons r0;obtain ⟨v2, vs2, d2, ds2, p2, q2, rfl, rfl, rfl, h2, r2⟩ := trodAll_cons r1;obtain ⟨rfl, rfl, rfl⟩ := trodAll_nil r2;obtain rfl : args = #[v0, v1, v2] := by cases args; simp_all
 obtain ⟨rfl, rfl⟩ := trodVars_none hV;have k0 := h0;have lt0 : ∀ x ∈ p0, x.block < W.heap.size := by obtain ⟨m, hm⟩ := k0; exact DataW.trod_lt m _ _ _ hm
 have z0 := Do hsz (j := 0) (t := 31) (d := d0) rfl rfl;obtain ⟨f0, b0⟩ := RB (hval 0 31 v0 rfl rfl) h0;have k1 := h1;have lt1 : ∀ x ∈ p1, x.block < W.heap.size := by obtain ⟨m, hm⟩ := k1; exact DataW.trod_lt m _ _ _ hm
 have z1 := Do hsz (j := 1) (t := 40) (d := d1) rfl rfl;obtain ⟨f1, b1⟩ := Kh (hval 1 40 v1 rfl rfl) h1 z1;obtain ⟨a2, rfl, rfl, rfl, w2⟩ := open_int Tryz.underlying3 (hval 2 3 v2 rfl rfl) h2;clear hA0 hval0;refine (Jc W b0 b1 a2 w2 hT (Tryz.laysM145.s1_3 W hshape)).mono fun e W' ⟨he, bel⟩ => ?_
 subst he;exact ⟨_, rfl, _, _, _, [], _, [], hW', trodAll_mk1 (shut_bool Tryz.underlying4 _), (trodAll_cons_mk (Below.trod laidOut (by kernel_rfl) (of_decide_eq_true (by kernel_rfl)) k0 bel lt0) (trodAll_cons_mk (Below.trod laidOut (by kernel_rfl) (of_decide_eq_true (by kernel_rfl)) k1 bel lt1) (trodAll_cons_mk (shut_int Tryz.underlying3 w2) trodAll_mk0))), rfl, bel.frame _, fun h => by cases h⟩
theorem over : Rows.JournalDecodesSaid :=
 OpenClaim.holds_of_wide 4 Tryz.f4 rfl rfl rfl rfl rfl rfl rfl ⟨rfl, rfl, rfl, rfl, rfl⟩ rfl rfl rfl rfl rfl (by kernel_rfl) Tryz.func4 (by kernel_rfl)
  (of_decide_eq_true (by kernel_rfl)) (by unfold Func.isWrapper; first | (rw [if_pos (by decide +kernel)]; kernel_rfl) | (rw [if_neg (by decide +kernel)]; exact ⟨rfl, rfl⟩))
  (fun os started H enc _ => lifted os started H enc)
theorem proved : Rows.JournalDecodesCardSaid :=
 Claim7.holds_tied_plain_at .later [] _ true _ _
  over (fun _ h => by cases h) (by kernel_rfl) (fun _ h => by cases h) journalDecodes_row_tie rfl ⟨rfl, rfl⟩ (by kernel_rfl) rfl
  (fun f fn hf hfn => by
   obtain rfl : f = 4 := Option.some.inj ((show Tryz.prog.funcNamed Rows.journalDecodesRow.func = some 4 by kernel_rfl).symm.trans hf) |>.symm
   obtain rfl : fn = Tryz.f4 := (Option.some.inj (Tryz.func4.symm.trans hfn)).symm;exact ⟨by kernel_rfl, fun j t ht => by
    rw [Tryz.params4] at ht;have hm : t ∈ [31, 40, 3] := by simpa using Array.mem_of_getElem? ht
    have hall : ([31, 40, 3].all fun u => !Tryz.prog.wantsStandIn u) = true := by kernel_rfl
    exact (show Tryz.prog.wantsStandIn t = false by simpa using List.all_eq_true.1 hall t hm)⟩)
  (by kernel_rfl)
end Go.Proofs.YtdgbealknnmkoaaGreatDoor.journalDecodes
