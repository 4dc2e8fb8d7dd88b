/- Drawn regions whose last operations are stores into what the region loads: the condition on the world is asked only as long as none of those stores has been carried out. -/
import Derived.Deep.RegionHeld3
namespace Go.Proofs.YtflajoflpkboiaaGreat
open Go
section
variable {P : Program} {ops : Array Oper} {Q : Exit → Act → World → Prop} {md : Region.Mode} {S : World → Prop} {late : Nat → Bool}

/-- S, as long as no late operation has come up -/
def SL (late : Nat → Bool) (S : World → Prop) (listed : Array Bool) (w : World) : Prop := (∀ k, late k = true → listed.getD k true = false) → S w
theorem SL.of {listed : Array Bool} {w : World} (h : S w) : SL late S listed w := fun _ => h
theorem SL.done {listed : Array Bool} {w : World} {i : Nat} (h : late i = true) : SL late S (listed.setIfInBounds i true) w := fun hk => by
 have := hk i h
 rw [Array.getD_eq_getD_getElem?, Array.getElem?_setIfInBounds_self] at this
 split at this <;> simp at this

/-- number k waits for number i, directly or through others -/
inductive Waits (md : Region.Mode) (ops : Array Oper) (i : Nat) : Nat → Prop
 | here {k : Nat} {o : Oper} {e : Edge} (ho : ops[k]? = some o) (he : e ∈ o.after) (hb : Region.binds md e = true) (hi : e.on = i) : Waits md ops i k
 | more {k : Nat} {o : Oper} {e : Edge} (ho : ops[k]? = some o) (he : e ∈ o.after) (hb : Region.binds md e = true) (h : Waits md ops i e.on) : Waits md ops i k
/-- what has come up has come up behind all that it waits for -/
def Closed (md : Region.Mode) (ops : Array Oper) (listed : Array Bool) : Prop :=
 ∀ (m : Nat) (o : Oper), ops[m]? = some o → listed[m]? = some true → ∀ e ∈ o.after, Region.binds md e = true → listed[e.on]? = some true
theorem Waits.listed {listed : Array Bool} {i k : Nat} (h : Waits md ops i k) (hc : Closed md ops listed) (hk : listed[k]? = some true) : listed[i]? = some true := by
 induction h with
 | here ho he hb hi => rw [← hi]; exact hc _ _ ho hk _ he hb
 | more ho he hb h ih => exact ih (hc _ _ ho hk _ he hb)

def wpAnyL (P : Program) (md : Region.Mode) (ops : Array Oper) (Q : Exit → Act → World → Prop) (S : World → Prop) (late : Nat → Bool) : Nat → Array Bool → Act → World → Prop
 | 0, listed, a, w => Region.ready md ops listed = [] ∧ Q .normal a w
 | fuel + 1, listed, a, w =>
  (Region.ready md ops listed = [] → Q .normal a w) ∧
  ∀ i ∈ Region.ready md ops listed, wpOp P ops Q i (fun a' w' => SL late S (listed.setIfInBounds i true) w' ∧ wpAnyL P md ops Q S late fuel (listed.setIfInBounds i true) a' w') a w

def AllReadyL (P : Program) (md : Region.Mode) (ops : Array Oper) (Q : Exit → Act → World → Prop) (S : World → Prop) (late : Nat → Bool) (fuel : Nat) (listed : Array Bool) (a : Act) (w : World) (rs : List Nat) : Prop :=
 ∀ i ∈ rs, wpOp P ops Q i (fun a' w' => SL late S (listed.setIfInBounds i true) w' ∧ wpAnyL P md ops Q S late fuel (listed.setIfInBounds i true) a' w') a w
theorem AllReadyL.nil {fuel : Nat} {listed : Array Bool} {a : Act} {w : World} : AllReadyL P md ops Q S late fuel listed a w [] := fun _ h => by cases h
theorem AllReadyL.cons {fuel : Nat} {listed : Array Bool} {a : Act} {w : World} {i : Nat} {o : Oper} {rs : List Nat} (ho : ops[i]? = some o)
  (h : ∀ K' : Act → World → Prop, Shut (∀ a w, SL late S (listed.setIfInBounds i true) w → wpAnyL P md ops Q S late fuel (listed.setIfInBounds i true) a w → K' a w) → if Region.wanted o (yielded ops a.tmps) = true then Oper.wp P o a w K' Q else K' (a.put o.dst undef) w)
  (hs : AllReadyL P md ops Q S late fuel listed a w rs) : AllReadyL P md ops Q S late fuel listed a w (i :: rs) := fun j hj => by
 rcases List.mem_cons.1 hj with rfl | hj
 ·exact wpOp_step ho (fun K' hK => h K' (fun a w hS hW => hK a w ⟨hS, hW⟩))
 ·exact hs j hj
end
end Go.Proofs.YtflajoflpkboiaaGreat
