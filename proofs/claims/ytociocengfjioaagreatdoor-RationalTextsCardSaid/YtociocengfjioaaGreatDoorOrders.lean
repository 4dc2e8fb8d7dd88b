/- Drawn regions whose last operations are stores into what the region loads: the condition on the world is asked only as long as none of those stores has been carried out. -/
import Derived.Deep.RegionHeld3
namespace Go.Proofs.YtociocengfjioaaGreatDoor
open Go
section
variable {P : Program} {ops : Array Oper} {Q : Exit → Act → World → Prop} {md : Region.Mode} {S : World → Prop} {late : Nat → Bool}

/-- S, as long as no late operation has come up -/
def SL (late : Nat → Bool) (S : World → Prop) (listed : Array Bool) (w : World) : Prop := (∀ k, late k = true → listed.getD k true = false) → S w
theorem SL.of {listed : Array Bool} {w : World} (h : S w) : SL late S listed w := fun _ => h
theorem SL.done {listed : Array Bool} {w : World} {i : Nat} (h : late i = true) : SL late S (listed.setIfInBounds i true) w := fun hk => by
  have := hk i h
  rw [Array.getD_eq_getD_getElem?, Array.getElem?_setIfInBounds_self] at this
  split at this <;> simp at this

/-- number k waits for number i, directly or through others -/
inductive Waits (md : Region.Mode) (ops : Array Oper) (i : Nat) : Nat → Prop
  | here {k : Nat} {o : Oper} {e : Edge} (ho : ops[k]? = some o) (he : e ∈ o.after) (hb : Region.binds md e = true) (hi : e.on = i) : Waits md ops i k
  | more {k : Nat} {o : Oper} {e : Edge} (ho : ops[k]? = some o) (he : e ∈ o.after) (hb : Region.binds md e = true) (h : Waits md ops i e.on) : Waits md ops i k
/-- what has come up has come up behind all that it waits for -/
def Closed (md : Region.Mode) (ops : Array Oper) (listed : Array Bool) : Prop :=
  ∀ (m : Nat) (o : Oper), ops[m]? = some o → listed[m]? = some true → ∀ e ∈ o.after, Region.binds md e = true → listed[e.on]? = some true
theorem Waits.listed {listed : Array Bool} {i k : Nat} (h : Waits md ops i k) (hc : Closed md ops listed) (hk : listed[k]? = some true) : listed[i]? = some true := by
  induction h with
  | here ho he hb hi => rw [← hi]; exact hc _ _ ho hk _ he hb
  | more ho he hb h ih => exact ih (hc _ _ ho hk _ he hb)

def wpAnyL (P : Program) (md : Region.Mode) (ops : Array Oper) (Q : Exit → Act → World → Prop) (S : World → Prop) (late : Nat → Bool) : Nat → Array Bool → Act → World → Prop
  | 0, listed, a, w => Region.ready md ops listed = [] ∧ Q .normal a w
  | fuel + 1, listed, a, w =>
    (Region.ready md ops listed = [] → Q .normal a w) ∧
    ∀ i ∈ Region.ready md ops listed, wpOp P ops Q i (fun a' w' => SL late S (listed.setIfInBounds i true) w' ∧ wpAnyL P md ops Q S late fuel (listed.setIfInBounds i true) a' w') a w

theorem wpAny_of_late : ∀ (fuel : Nat) (listed : Array Bool) (a : Act) (w : World), wpAnyL P md ops Q S late fuel listed a w → wpAny P md ops Q fuel listed a w
  | 0, _, _, _, h => h
  | fuel + 1, _, _, _, h => ⟨h.1, fun i hi => wpOp_mono (fun a' w' h' => wpAny_of_late fuel _ a' w' h'.2) (h.2 i hi)⟩

theorem wpAnyL_first {i : Nat} {oi : Oper} {v : Value} (hi : ops[i]? = some oi) (hsel : ∀ (j : Nat) (o : Oper) cs b, ops[j]? = some o → o.op ≠ .select cs b)
    (hQ : ∀ c a w, Q (.panic c) (a.put oi.dst v) w → Q (.panic c) a w) (hil : late i = false)
    (hlate : ∀ k, late k = true → Waits md ops i k) :
    ∀ (fuel : Nat) (listed : Array Bool) (a : Act) (w : World),
      (∀ j oj, ops[j]? = some oj → j ≠ i → listed.getD j true = false → (∀ e ∈ oj.after, Region.binds md e = true → e.on ≠ i) → oi.apart ops oj = true) →
      i ∈ Region.ready md ops listed → Closed md ops listed → (∀ k, late k = true → listed.getD k true = false) → YieldsIf P ops S oi v a → S w →
      wpAnyL P md ops Q S late fuel (listed.setIfInBounds i true) (a.put oi.dst v) w → wpAnyL P md ops Q S late (fuel + 1) listed a w := by
  intro fuel
  induction fuel with
  | zero =>
    intro listed a w _ hr _ _ hy hS H
    refine ⟨fun h => (by rw [h] at hr; cases hr), fun j hj => ?_⟩
    by_cases hji : j = i
    · subst hji; exact hy.wpOp hi hS ⟨SL.of hS, H⟩
    · have := ready_mono hj hji
      rw [H.1] at this
      cases this
  | succ fuel ih =>
    intro listed a w hfree hr hcl hun hy hS H
    refine ⟨fun h => (by rw [h] at hr; cases hr), fun j hj => ?_⟩
    by_cases hji : j = i
    · subst hji; exact hy.wpOp hi hS ⟨SL.of hS, H⟩
    · have h1 := H.2 j (ready_mono hj hji)
      obtain ⟨hjun, oj, hoj, hall⟩ := mem_ready.1 hj
      have hnot : ∀ e ∈ oj.after, Region.binds md e = true → e.on ≠ i := fun e he hb heq => by
        have h1 := hall e he hb
        have h0 := (mem_ready.1 hr).1
        rw [heq] at h1
        rcases Nat.lt_or_ge i listed.size with h' | h'
        · simp [h'] at h0 h1; rw [h0] at h1; cases h1
        · simp [Array.getElem?_eq_none h'] at h1
      have hiu : listed[i]? ≠ some true := fun h => by have h0 := (mem_ready.1 hr).1; simp [h] at h0
      have hall' : ∀ e ∈ oj.after, Region.binds md e = true → listed[e.on]? = some true := fun e he hb => by
        have h1 := hall e he hb
        rcases Nat.lt_or_ge e.on listed.size with h' | h'
        · simpa [h'] using h1
        · simp [Array.getElem?_eq_none h'] at h1
      have hjl : ∀ k, late k = true → j ≠ k := fun k hk e => by
        subst e
        have hw := hlate j hk
        cases hw with
        | here ho he hb hi' =>
          rw [hoj] at ho
          cases ho
          exact hnot _ he hb hi'
        | more ho he hb h =>
          rw [hoj] at ho
          cases ho
          exact hiu (h.listed hcl (hall' _ he hb))
      have hcl' : Closed md ops (listed.setIfInBounds j true) := fun m om hom hm e he hb => by
        have key : ∀ x, listed[x]? = some true → (listed.setIfInBounds j true)[x]? = some true := fun x hx => by
          rw [Array.getElem?_setIfInBounds]
          split
          · rename_i h; subst h
            rw [if_pos (Array.getElem?_eq_some_iff.1 hx).1]
          · exact hx
        by_cases hmj : m = j
        · subst hmj
          rw [hoj] at hom
          cases hom
          exact key _ (hall' e he hb)
        · rw [Array.getElem?_setIfInBounds_ne (Ne.symm hmj)] at hm
          exact key _ (hcl m om hom hm e he hb)
      have hun' : ∀ k, late k = true → (listed.setIfInBounds j true).getD k true = false := fun k hk => by
        rw [getD_set_ne true (hjl k hk)]; exact hun k hk
      have hun2 : ∀ k, late k = true → ((listed.setIfInBounds i true).setIfInBounds j true).getD k true = false := fun k hk => by
        have hki : i ≠ k := fun e => by subst e; rw [hil] at hk; cases hk
        rw [getD_set_ne true (hjl k hk), getD_set_ne true hki]; exact hun k hk
      have h2 := wpOp_putIf hoj (hfree j oj hoj hji hjun hnot) (fun cs b => hsel i oi cs b hi) (fun cs b => hsel j oj cs b hoj) hQ hy h1
      have hfree' : ∀ k ok, ops[k]? = some ok → k ≠ i → (listed.setIfInBounds j true).getD k true = false →
          (∀ e ∈ ok.after, Region.binds md e = true → e.on ≠ i) → oi.apart ops ok = true := fun k ok hk hki hun hno => by
        refine hfree k ok hk hki ?_ hno
        by_cases hjk : j = k
        · subst hjk; exact hjun
        · rw [getD_set_ne true hjk] at hun; exact hun
      refine wpOp_mono (fun a' w' h3 => ⟨SL.of (h3.2.1 hun2), ih (listed.setIfInBounds j true) a' w' hfree' (ready_mono hr (Ne.symm hji)) hcl' hun' h3.1 (h3.2.1 hun2) ?_⟩) h2
      rw [Array.setIfInBounds_comm _ _ hji]
      exact h3.2.2

def waitsB (md : Region.Mode) (ops : Array Oper) (i : Nat) : Nat → Nat → Bool
  | 0, _ => false
  | fuel + 1, k => match ops[k]? with
    | some o => o.after.toList.any fun e => Region.binds md e && (e.on == i || waitsB md ops i fuel e.on)
    | none => false
theorem waitsB_spec {i : Nat} : ∀ {fuel k : Nat}, waitsB md ops i fuel k = true → Waits md ops i k
  | 0, _, h => by simp [waitsB] at h
  | fuel + 1, k, h => by
    unfold waitsB at h
    cases ho : ops[k]? with
    | none => rw [ho] at h; simp at h
    | some o =>
      rw [ho] at h
      simp only [List.any_eq_true, Bool.and_eq_true, Bool.or_eq_true, beq_iff_eq] at h
      obtain ⟨e, he, hb, h | h⟩ := h
      · exact .here ho (by simpa using he) hb h
      · exact .more ho (by simpa using he) hb (waitsB_spec h)
def closedB (md : Region.Mode) (ops : Array Oper) (listed : Array Bool) : Bool :=
  (List.range ops.size).all fun m => match ops[m]? with
    | some o => !(listed.getD m false) || o.after.toList.all fun e => !(Region.binds md e) || listed.getD e.on false
    | none => true
theorem getD_false {listed : Array Bool} {m : Nat} : listed.getD m false = true ↔ listed[m]? = some true := by
  rw [Array.getD_eq_getD_getElem?]
  cases listed[m]? <;> simp
theorem closedB_spec {listed : Array Bool} (h : closedB md ops listed = true) : Closed md ops listed := fun m o ho hm e he hb => by
  simp only [closedB, List.all_eq_true, List.mem_range] at h
  have h1 := h m (Array.getElem?_eq_some_iff.1 ho).1
  rw [ho] at h1
  simp only [Bool.or_eq_true, Bool.not_eq_true', List.all_eq_true] at h1
  rcases h1 with h1 | h1
  · rw [getD_false.2 hm] at h1; cases h1
  · have h2 := h1 e (by simpa using he)
    rw [hb] at h2
    simp only [Bool.true_eq_false, false_or] at h2
    exact getD_false.1 h2
/-- every late operation waits for number i, which is not late; none has come up; what has come up is closed -/
def lateB (md : Region.Mode) (ops : Array Oper) (late : Nat → Bool) (listed : Array Bool) (i : Nat) : Bool :=
  !late i && (closedB md ops listed && (List.range ops.size).all fun k => !late k || (!(listed.getD k true) && waitsB md ops i ops.size k))
theorem lateB_spec {listed : Array Bool} {i : Nat} (h : lateB md ops late listed i = true) (hn : ∀ k, late k = true → k < ops.size) :
    late i = false ∧ (∀ k, late k = true → Waits md ops i k) ∧ Closed md ops listed ∧ (∀ k, late k = true → listed.getD k true = false) := by
  simp only [lateB, Bool.and_eq_true, Bool.not_eq_true', List.all_eq_true, List.mem_range, Bool.or_eq_true] at h
  refine ⟨h.1, fun k hk => ?_, closedB_spec h.2.1, fun k hk => ?_⟩
  · have h2 := h.2.2 k (hn k hk)
    rw [hk] at h2
    simp only [Bool.true_eq_false, false_or] at h2
    exact waitsB_spec h2.2
  · have h2 := h.2.2 k (hn k hk)
    rw [hk] at h2
    simp only [Bool.true_eq_false, false_or] at h2
    exact h2.1

theorem wpAnyL_take {i : Nat} {oi : Oper} {v : Value} {fuel : Nat} {listed : Array Bool} {a : Act} {w : World} (hn : ∀ k, late k = true → k < ops.size) (hi : ops[i]? = some oi)
    (hs : Region.noSelect ops = true) (hf : Region.free md ops listed i = true) (hr : (Region.ready md ops listed).contains i = true) (hl : lateB md ops late listed i = true)
    (hQ : ∀ c a w, Q (.panic c) (a.put oi.dst v) w → Q (.panic c) a w) (hy : YieldsIf P ops S oi v a) (hS : S w)
    (h : wpAnyL P md ops Q S late fuel (listed.setIfInBounds i true) (a.put oi.dst v) w) : wpAnyL P md ops Q S late (fuel + 1) listed a w :=
  wpAnyL_first hi (Region.noSelect_spec hs) hQ (lateB_spec hl hn).1 (lateB_spec hl hn).2.1 fuel listed a w (Region.free_spec hi hf) (by simpa using hr) (lateB_spec hl hn).2.2.1 (lateB_spec hl hn).2.2.2 hy hS h

theorem wpAnyL_all {rs : List Nat} {fuel : Nat} {listed : Array Bool} {a : Act} {w : World} (hr : Region.ready md ops listed = rs) (hne : rs ≠ [])
    (h : ∀ i ∈ rs, wpOp P ops Q i (fun a' w' => SL late S (listed.setIfInBounds i true) w' ∧ wpAnyL P md ops Q S late fuel (listed.setIfInBounds i true) a' w') a w) : wpAnyL P md ops Q S late (fuel + 1) listed a w :=
  ⟨fun h0 => absurd (hr ▸ h0) hne, hr ▸ h⟩
theorem wpAnyL_done {listed : Array Bool} {a : Act} {w : World} (hr : Region.ready md ops listed = []) (h : Q .normal a w) :
    ∀ fuel, wpAnyL P md ops Q S late fuel listed a w
  | 0 => ⟨hr, h⟩
  | _ + 1 => ⟨fun _ => h, by rw [hr]; simp⟩
def AllReadyL (P : Program) (md : Region.Mode) (ops : Array Oper) (Q : Exit → Act → World → Prop) (S : World → Prop) (late : Nat → Bool) (fuel : Nat) (listed : Array Bool) (a : Act) (w : World) (rs : List Nat) : Prop :=
  ∀ i ∈ rs, wpOp P ops Q i (fun a' w' => SL late S (listed.setIfInBounds i true) w' ∧ wpAnyL P md ops Q S late fuel (listed.setIfInBounds i true) a' w') a w
theorem AllReadyL.nil {fuel : Nat} {listed : Array Bool} {a : Act} {w : World} : AllReadyL P md ops Q S late fuel listed a w [] := fun _ h => by cases h
theorem AllReadyL.cons {fuel : Nat} {listed : Array Bool} {a : Act} {w : World} {i : Nat} {o : Oper} {rs : List Nat} (ho : ops[i]? = some o)
    (h : ∀ K' : Act → World → Prop, Shut (∀ a w, SL late S (listed.setIfInBounds i true) w → wpAnyL P md ops Q S late fuel (listed.setIfInBounds i true) a w → K' a w) → if Region.wanted o (yielded ops a.tmps) = true then Oper.wp P o a w K' Q else K' (a.put o.dst undef) w)
    (hs : AllReadyL P md ops Q S late fuel listed a w rs) : AllReadyL P md ops Q S late fuel listed a w (i :: rs) := fun j hj => by
  rcases List.mem_cons.1 hj with rfl | hj
  · exact wpOp_step ho (fun K' hK => h K' (fun a w hS hW => hK a w ⟨hS, hW⟩))
  · exact hs j hj
theorem wpAnyL_ready {rs : List Nat} {fuel : Nat} {listed : Array Bool} {a : Act} {w : World} (hr : Region.ready md ops listed = rs) (hne : rs ≠ [])
    (h : AllReadyL P md ops Q S late fuel listed a w rs) : wpAnyL P md ops Q S late (fuel + 1) listed a w := wpAnyL_all hr hne h
theorem wp_region_late {id : Nat} {a : Act} {w : World} (hm : P.follows .mixedOrders = true) (h : wpAnyL P .any ops Q S late ops.size (Array.replicate ops.size false) a w.drew) : (Code.region id ops true).wp P Q a w :=
  wp_region_any hm (wpAny_of_late _ _ _ _ h)
end
end Go.Proofs.YtociocengfjioaaGreatDoor
