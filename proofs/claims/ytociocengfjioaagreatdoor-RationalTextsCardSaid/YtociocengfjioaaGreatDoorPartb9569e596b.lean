/- Texts of one proof, merged by a program: each lemma is proved for all values of its variables, under the premises that it states. -/
import Derived.Test.YtociocengfjioaaGreatDoorPart8be4309fd0
import Derived.Test.YtociocengfjioaaGreatDoorLim
import Derived.Test.YtociocengfjioaaGreatDoorDivMod
import Derived.Test.YtociocengfjioaaGreatDoorGcd
import Derived.Test.YtociocengfjioaaGreatDoorIntH
import Derived.Test.YtociocengfjioaaGreatDoorIntI
import Derived.Test.YtociocengfjioaaGreatDoorIntJ
import Derived.Test.YtociocengfjioaaGreatDoorGcdR
import Derived.Test.YtociocengfjioaaGreatDoorRefH
import Derived.Test.YtociocengfjioaaGreatDoorRefE
import Derived.Test.YtociocengfjioaaGreatDoorSame
import Derived.Test.YtociocengfjioaaGreatDoorFormat
import Derived.IntWalk
import Derived.Test.YtociocengfjioaaGreatDoorOpen
import Derived.Test.YtociocengfjioaaGreatDoorParse
import Derived.Test.YtociocengfjioaaGreatDoorRefParse
import Derived.Test.YtociocengfjioaaGreatDoorRefFormat
import Derived.Test.YtociocengfjioaaGreatDoorPow
import Derived.Test.YtociocengfjioaaGreatDoorShelf
/- Code in types: the runner and its soundness. -/
namespace Go.Proofs.YtociocengfjioaaGreatDoor
open Go Go.RowKit
set_option linter.unusedVariables false
set_option linter.unusedSimpArgs false

inductive TI where
  | code (c : Code)
  | blk (id : Nat)
def dropTo (id : Nat) : List TI → Option (List TI)
  | [] => none
  | .blk i :: k => if Nat.beq i id then some k else dropTo id k
  | .code _ :: k => dropTo id k
def restE (E : Env) : Env → Option Env
  | [] => some []
  | (t, _) :: r => match look E t, restE E r with
    | some v, some l => some ((t, v) :: l)
    | _, _ => none
def restB (B : Bxs) : Bxs → Option Bxs
  | [] => some []
  | (k, _) :: r => match lookB B k, restB B r with
    | some e, some l => some ((k, some e) :: l)
    | _, _ => none
/-- names below nx alone -/
def It.lt (nx : Nat) : It → Bool
  | .ptr k _ => Nat.blt k nx
  | .sl k => Nat.blt k nx
  | _ => true
def CT.lt (nx : Nat) : CT → Bool
  | .one x => x.lt nx
  | .ag l => l.all (It.lt nx)
def TV.lt (nx : Nat) : TV → Bool
  | .cv c => c.lt nx
  | .tu l => l.all (CT.lt nx)
def ltE (nx : Nat) : Env → Bool
  | [] => true
  | (_, v) :: r => v.lt nx && ltE nx r
def ltB (nx : Nat) : Bxs → Bool
  | [] => true
  | (k, some e) :: r => Nat.blt k nx && e.its.all (It.lt nx) && ltB nx r
  | (_, none) :: r => ltB nx r
/-- what the state a says of b's slots and boxes -/
def restr (a b : St) : Option St :=
  match restE a.E b.E, restB a.B b.B with
  | some E, some B => if Nat.ble a.nx b.nx || (Nat.ble 2 b.nx && (ltE b.nx E && ltB b.nx B)) then some ⟨E, B, b.nx⟩ else none
  | _, _ => none
/-- a region; with the hint perm: a read (number q of the order l) may come behind the append (number p) to the slice k that it reads -/
def regT (P : Program) (nt : Nat) (ops : Array Oper) (draw : Bool) (s : St) (h : List Ob) : Option (Env × Bxs × List Ob × List Ob) :=
  match h with
  | .perm l q p k :: h1 =>
    match runOps P nt ops.toList (permO ops.toList l) s.nx s.E s.B h1 with
    | some (rs, E, B, os, h') => if draw && (lateOk ops.toList rs l q p k && P.follows .mixedOrders) then some (E, B, .perm l q p k :: os, h') else none
    | none => none
  | _ =>
    match runOps P nt ops.toList ops.toList s.nx s.E s.B h with
    | some (rs, E, B, os, h') => if !draw || (regOk ops.toList rs && P.follows .mixedOrders) then some (E, B, os, h') else none
    | none => none
def runT (P : Program) (nt : Nat) : Nat → List TI → St → List Ob → Option (Exit × St × List Ob × List Ob)
  | 0, _, _, _ => none
  | f + 1, k, s, h =>
    match h with
    | .leads a b :: h' =>
      match restr s a with
      | some a' =>
        match runT P nt f k b h' with
        | some (ex, s', os, r) => some (ex, s', .leads a' b :: os, r)
        | none => none
      | none => none
    | _ =>
      match k with
      | [] => some (.normal, s, [], h)
      | .blk _ :: k => runT P nt f k s h
      | .code c :: k =>
        match c with
        | .skip => runT P nt f k s h
        | .label _ => runT P nt f k s h
        | .seq x y => runT P nt f (.code x :: .code y :: k) s h
        | .block id x => runT P nt f (.code x :: .blk id :: k) s h
        | .exit id => match dropTo id k with
          | some k' => runT P nt f k' s h
          | none => some (.exit id, s, [], h)
        | .ret => some (.ret, s, [], h)
        | .cond c x y =>
          match opT (look s.E) c with
          | some (.cv (.one (.b (.lit (.bool true))))) => runT P nt f (.code x :: k) s h
          | some (.cv (.one (.b (.lit (.bool false))))) => runT P nt f (.code y :: k) s h
          | _ => none
        | .region _ ops draw =>
          match regT P nt ops draw s h with
          | some (E, B, os, h') =>
            match runT P nt f k ⟨E, B, s.nx + ops.size⟩ h' with
            | some (ex, s', os', r) => some (ex, s', os ++ os', r)
            | none => none
          | none => none
        | .loop c =>
          match h with
          | .loop _ a ex b :: h' =>
            match restr s a with
            | some a' =>
              match ex with
              | .exit id =>
                match dropTo id k with
                | some k' =>
                  match runT P nt f k' b h' with
                  | some (ex', s', os, r) => some (ex', s', .loop c a' ex b :: os, r)
                  | none => none
                | none => some (.exit id, b, [.loop c a' ex b], h')
              | .ret => some (.ret, b, [.loop c a' ex b], h')
              | _ => none
            | none => none
          | _ => none
        | _ => none

def StSem (I : WInv) (N0 : Nat → Prop) (w0 : Grd) (nt : Nat) (s : St) (a : Act) (w : World) : Prop := ∃ N g, Sat I N0 w0 nt N g (look s.E) (lookB s.B) a w ∧ Fr g s.nx
def LoopTr (P : Program) (I : WInv) (nt : Nat) (c : Code) (a : St) (ex : Exit) (b : St) : Prop :=
  ∀ N0 w0 act w, StSem I N0 w0 nt a act w → (Code.loop c).wp P (fun e act' w' => e = ex ∧ StSem I N0 w0 nt b act' w') act w
def Leads (I : WInv) (nt : Nat) (a b : St) : Prop := ∀ N0 w0 act w, StSem I N0 w0 nt a act w → StSem I N0 w0 nt b act w
def Ob.more (P : Program) (I : WInv) (nt : Nat) : Ob → Prop
  | .loop c a ex b => LoopTr P I nt c a ex b
  | .leads a b => Leads I nt a b
  | o => o.prop P I
def Owed2 (P : Program) (I : WInv) (nt : Nat) (os : List Ob) : Prop := ∀ o ∈ os, o.more P I nt
theorem Owed2.app {P : Program} {I : WInv} {nt : Nat} {a b : List Ob} (h : Owed2 P I nt (a ++ b)) : Owed2 P I nt a ∧ Owed2 P I nt b := ⟨fun o ho => h o (by simp [ho]), fun o ho => h o (by simp [ho])⟩
theorem Owed2.cons {P : Program} {I : WInv} {nt : Nat} {a : Ob} {b : List Ob} (h : Owed2 P I nt (a :: b)) : a.more P I nt ∧ Owed2 P I nt b := ⟨h a (by simp), fun o ho => h o (by simp [ho])⟩
theorem Owed2.plain {P : Program} {I : WInv} {nt : Nat} {a : List Ob} (h : Owed2 P I nt a) : Owed P I a := by
  intro o ho
  have := h o ho
  cases o <;> first | exact this | trivial

section
variable {P : Program} {I : WInv} {nt : Nat} {N0 : Nat → Prop} {w0 : Grd}
theorem regT_sound {id : Nat} {ops : Array Oper} {draw : Bool} {s : St} {h os h' : List Ob} {E : Env} {B : Bxs} (hr : regT P nt ops draw s h = some (E, B, os, h')) (ho : Owed P I os) {N : Nat → Prop} {g : Gh} {a : Act} {w : World} (hs1 : Sat I N0 w0 nt N g (look s.E) (lookB s.B) a w) (hs2 : Fr g s.nx) {Q : Exit → Act → World → Prop}
    (hQ : ∀ N' g' a' w', Sat I N0 w0 nt N' g' (look E) (lookB B) a' w' → Fr g' (s.nx + ops.size) → Q .normal a' w') : (Code.region id ops draw).wp P Q a w := by
  unfold regT at hr
  split at hr
  · rename_i l q p k h1
    split at hr
    · rename_i rs E1 B1 os1 h2 hro
      split at hr
      · rename_i hd
        simp only [Option.some.injEq, Prod.mk.injEq] at hr
        obtain ⟨rfl, rfl, rfl, rfl⟩ := hr
        simp only [Bool.and_eq_true] at hd
        obtain ⟨rfl, hd1, hd2⟩ := hd
        exact reg_late hro (fun o h => ho o (by simp [h])) hd1 hd2 hs1 hs2 hQ
      · cases hr
    · cases hr
  · split at hr
    · rename_i rs E1 B1 os1 h2 hro
      split at hr
      · rename_i hd
        simp only [Option.some.injEq, Prod.mk.injEq] at hr
        obtain ⟨rfl, rfl, rfl, rfl⟩ := hr
        cases draw with
        | false => exact reg_seq hro ho hs1 hs2 hQ
        | true =>
          simp only [Bool.not_true, Bool.false_or, Bool.and_eq_true] at hd
          exact reg_any hro ho hd.1 hd.2 hs1 hs2 hQ
      · cases hr
    · cases hr
theorem restE_look {E : Env} : ∀ {F G : Env}, restE E F = some G → ∀ t v, look G t = some v → look E t = some v
  | [], G, h, t, v, hv => by simp only [restE, Option.some.injEq] at h; subst h; cases hv
  | (q, u) :: F, G, h, t, v, hv => by
    simp only [restE] at h
    split at h
    · rename_i x l h1 h2
      injection h with h
      subst h
      simp only [look] at hv
      split at hv
      · rename_i hq
        injection hv with hv
        rw [← Nat.eq_of_beq_eq_true hq, h1, hv]
      · exact restE_look h2 t v hv
    · cases h
theorem restB_look {B : Bxs} : ∀ {F G : Bxs}, restB B F = some G → ∀ t v, lookB G t = some v → lookB B t = some v
  | [], G, h, t, v, hv => by simp only [restB, Option.some.injEq] at h; subst h; cases hv
  | (q, u) :: F, G, h, t, v, hv => by
    simp only [restB] at h
    split at h
    · rename_i x l h1 h2
      injection h with h
      subst h
      simp only [lookB] at hv
      split at hv
      · rename_i hq
        rw [← Nat.eq_of_beq_eq_true hq, h1, hv]
      · exact restB_look h2 t v hv
    · cases h
def cutG (g : Gh) (nx : Nat) : Gh := fun k => if k < nx then g k else none
theorem cutG_at {g : Gh} {nx k : Nat} (h : k < nx) : cutG g nx k = g k := by unfold cutG; rw [if_pos h]
theorem cutG_blk {g : Gh} {nx k : Nat} (h : k < nx) : blkOf (cutG g nx) k = blkOf g k := by unfold blkOf; rw [cutG_at h]
theorem blt_lt {a b : Nat} (h : Nat.blt a b = true) : a < b := Nat.le_of_ble_eq_true h
theorem It.lt_sem {N : Nat → Prop} {w : World} {g : Gh} {nx : Nat} {x : It} {l : List Value} (h : x.lt nx = true) (hs : x.sem N w g l) : x.sem N w (cutG g nx) l := by
  cases x with
  | b x => exact hs
  | fp x => exact hs
  | ptr k off => obtain ⟨b, h1, h2⟩ := hs; exact ⟨b, by rw [cutG_blk (blt_lt h)]; exact h1, h2⟩
  | sl k => obtain ⟨A, n, c, h1, h2⟩ := hs; exact ⟨A, n, c, by rw [cutG_at (blt_lt h)]; exact h1, h2⟩
theorem semL_lt {N : Nat → Prop} {w : World} {g : Gh} {nx : Nat} : ∀ {xs : List It} {l : List Value}, xs.all (It.lt nx) = true → semL N w g xs l → semL N w (cutG g nx) xs l
  | [], _, _, h => h
  | x :: xs, _, hn, ⟨l1, l2, e, h1, h2⟩ => by
    simp only [List.all_cons, Bool.and_eq_true] at hn
    exact ⟨l1, l2, e, It.lt_sem hn.1 h1, semL_lt hn.2 h2⟩
theorem CT.lt_sem {N : Nat → Prop} {w : World} {g : Gh} {nx : Nat} {c : CT} {v : Value} (h : c.lt nx = true) (hs : c.sem N w g v) : c.sem N w (cutG g nx) v := by
  cases c with
  | one x => exact It.lt_sem h hs
  | ag l => obtain ⟨vs, e, h1⟩ := hs; exact ⟨vs, e, semL_lt h h1⟩
theorem all2_lt {N : Nat → Prop} {w : World} {g : Gh} {nx : Nat} : ∀ {cs : List CT} {vs : List Value}, cs.all (CT.lt nx) = true → all2 (CT.sem N w g) cs vs → all2 (CT.sem N w (cutG g nx)) cs vs
  | [], _, _, h => h
  | c :: cs, _, hn, ⟨v, l, e, h1, h2⟩ => by
    simp only [List.all_cons, Bool.and_eq_true] at hn
    exact ⟨v, l, e, CT.lt_sem hn.1 h1, all2_lt hn.2 h2⟩
theorem TV.lt_sem {N : Nat → Prop} {w : World} {g : Gh} {nx : Nat} {t : TV} {v : Value} (h : t.lt nx = true) (hs : t.sem N w g v) : t.sem N w (cutG g nx) v := by
  cases t with
  | cv c => exact CT.lt_sem h hs
  | tu l => obtain ⟨vs, e, h1⟩ := hs; exact ⟨vs, e, all2_lt h h1⟩
theorem ltE_look {nx : Nat} : ∀ {E : Env} {t : Nat} {v : TV}, ltE nx E = true → look E t = some v → v.lt nx = true
  | [], _, _, _, h => by cases h
  | (k, u) :: r, t, v, h, hv => by
    simp only [ltE, Bool.and_eq_true] at h
    simp only [look] at hv
    split at hv
    · injection hv with hv; rw [← hv]; exact h.1
    · exact ltE_look h.2 hv
theorem ltB_look {nx : Nat} : ∀ {B : Bxs} {t : Nat} {e : Ent}, ltB nx B = true → lookB B t = some e → t < nx ∧ e.its.all (It.lt nx) = true
  | [], _, _, _, h => by cases h
  | (k, some u) :: r, t, e, h, hv => by
    simp only [ltB, Bool.and_eq_true] at h
    simp only [lookB] at hv
    split at hv
    · rename_i hk
      injection hv with hv
      rw [← hv, ← Nat.eq_of_beq_eq_true hk]
      exact ⟨blt_lt h.1.1, h.1.2⟩
    · exact ltB_look h.2 hv
  | (k, none) :: r, t, e, h, hv => by
    simp only [ltB] at h
    simp only [lookB] at hv
    split at hv
    · cases hv
    · exact ltB_look h hv
theorem BoxSem.cut {N : Nat → Prop} {w : World} {g : Gh} {base : Nat → Prop} {nx k : Nat} {e : Ent} (h : BoxSem N w g base k e) (hk : k < nx) (he : e.its.all (It.lt nx) = true) : BoxSem N w (cutG g nx) base k e := by
  obtain ⟨gv, h1, h2⟩ := h
  refine ⟨gv, by rw [cutG_at hk]; exact h1, ?_⟩
  rcases h2 with ⟨s, n, r1, r2, r3, r4⟩ | ⟨b, cs, l, r1, r2, r3, r4⟩
  · exact .inl ⟨s, n, r1, r2, r3, semL_lt he r4⟩
  · exact .inr ⟨b, cs, l, r1, r2, semL_lt he r3, r4⟩
theorem restr_sem {a b c : St} (h : restr a b = some c) {act : Act} {w : World} (hs : StSem I N0 w0 nt a act w) : StSem I N0 w0 nt c act w := by
  unfold restr at h
  split at h
  · rename_i E B h1 h2
    split at h
    · rename_i hn
      injection h with h
      subst h
      obtain ⟨N, g, h3, h4⟩ := hs
      have h5 := h3.weak (restE_look h1) (restB_look h2)
      rw [Bool.or_eq_true, Bool.and_eq_true, Bool.and_eq_true] at hn
      rcases hn with hn | ⟨h2n, hE, hB⟩
      · exact ⟨N, g, h5, fun k hk => h4 k (Nat.le_trans (Nat.le_of_ble_eq_true hn) hk)⟩
      · refine ⟨N, cutG g b.nx, { h5 with slots := fun t v hv => TV.lt_sem (ltE_look hE hv) (h5.slots t v hv), boxes := fun k e he => (h5.boxes k e he).cut (ltB_look hB he).1 (ltB_look hB he).2, inj := ?_, rig := fun k v hv => by rw [cutG_at (Nat.lt_of_lt_of_le (w0.lo k v hv) (Nat.le_of_ble_eq_true h2n))]; exact h5.rig k v hv }, fun k hk => by show cutG g b.nx k = none; unfold cutG; rw [if_neg (Nat.not_lt.2 hk)]⟩
        intro k j e e' bb q1 q2 q3 q4
        rw [cutG_blk (ltB_look hB q1).1] at q3
        rw [cutG_blk (ltB_look hB q2).1] at q4
        exact h5.inj k j e e' bb q1 q2 q3 q4
    · cases h
  · cases h
/-- what is left to do, as a claim on what comes of it -/
def wpT (P : Program) (R : Exit → Act → World → Prop) : List TI → Exit → Act → World → Prop
  | [], ex, a, w => R ex a w
  | .code c :: k, .normal, a, w => c.wp P (wpT P R k) a w
  | .code c :: k, ex, a, w => wpT P R k ex a w
  | .blk id :: k, .exit id', a, w => if id' = id then wpT P R k .normal a w else wpT P R k (.exit id') a w
  | .blk id :: k, ex, a, w => wpT P R k ex a w
theorem wpT_drop {R : Exit → Act → World → Prop} {id : Nat} : ∀ {k k' : List TI}, dropTo id k = some k' → ∀ a w, wpT P R k' .normal a w → wpT P R k (.exit id) a w
  | [], _, h, _, _, _ => by cases h
  | .blk i :: k, k', h, a, w, hw => by
    simp only [dropTo] at h
    simp only [wpT]
    split at h
    · rename_i hi
      injection h with h
      subst h
      rw [if_pos (Nat.eq_of_beq_eq_true hi).symm]
      exact hw
    · rename_i hi
      rw [if_neg (fun e => hi (by rw [e]; exact Nat.beq_refl _))]
      exact wpT_drop h a w hw
  | .code _ :: k, k', h, a, w, hw => by
    simp only [dropTo] at h
    simp only [wpT]
    exact wpT_drop h a w hw
theorem wpT_out {R : Exit → Act → World → Prop} {id : Nat} : ∀ {k : List TI}, dropTo id k = none → ∀ a w, R (.exit id) a w → wpT P R k (.exit id) a w
  | [], _, _, _, h => h
  | .blk i :: k, h, a, w, hw => by
    simp only [dropTo] at h
    simp only [wpT]
    split at h
    · cases h
    · rename_i hi
      rw [if_neg (fun e => hi (by rw [e]; exact Nat.beq_refl _))]
      exact wpT_out h a w hw
  | .code _ :: k, h, a, w, hw => by
    simp only [dropTo] at h
    simp only [wpT]
    exact wpT_out h a w hw
theorem wpT_ret {R : Exit → Act → World → Prop} : ∀ {k : List TI} (a : Act) (w : World), R .ret a w → wpT P R k .ret a w
  | [], _, _, h => h
  | .blk i :: k, a, w, hw => by simp only [wpT]; exact wpT_ret (k := k) a w hw
  | .code _ :: k, a, w, hw => by simp only [wpT]; exact wpT_ret (k := k) a w hw
theorem runT_sound {R : Exit → Act → World → Prop} : ∀ {f : Nat} {k : List TI} {s : St} {h : List Ob} {ex : Exit} {s' : St} {os r : List Ob}, runT P nt f k s h = some (ex, s', os, r) → Owed2 P I nt os → (∀ a w, StSem I N0 w0 nt s' a w → R ex a w) → ∀ a w, StSem I N0 w0 nt s a w → wpT P R k .normal a w
  | 0, _, _, _, _, _, _, _, h, _, _, _, _, _ => by cases h
  | f + 1, k, s, h, ex, s', os, r, hr, ho, hR, a, w, hs => by
    simp only [runT] at hr
    split at hr
    · split at hr
      · rename_i a' hre
        split at hr
        · rename_i ex1 s1 os1 r1 hrec
          simp only [Option.some.injEq, Prod.mk.injEq] at hr
          obtain ⟨rfl, rfl, rfl, rfl⟩ := hr
          obtain ⟨h1, h2⟩ := ho.cons
          exact runT_sound hrec h2 hR a w (h1 N0 w0 a w (restr_sem hre hs))
        · cases hr
      · cases hr
    · split at hr
      · simp only [Option.some.injEq, Prod.mk.injEq] at hr
        obtain ⟨rfl, rfl, rfl, rfl⟩ := hr
        exact hR a w hs
      · simp only [wpT]
        exact runT_sound hr ho hR a w hs
      · rename_i c k
        simp only [wpT]
        split at hr
        · exact wp_skip (runT_sound hr ho hR a w hs)
        · exact wp_label (runT_sound hr ho hR a w hs)
        · rename_i x y
          have := runT_sound hr ho hR a w hs
          simp only [wpT] at this
          refine wp_seq (wp_mono this ?_)
          intro e a' w' h'
          cases e <;> exact h'
        · rename_i id x
          have := runT_sound hr ho hR a w hs
          simp only [wpT] at this
          refine wp_block (wp_mono this ?_)
          intro e a' w' h'
          cases e <;> exact h'
        · rename_i id
          split at hr
          · rename_i k' hd
            exact wp_exit (wpT_drop hd a w (runT_sound hr ho hR a w hs))
          · rename_i hd
            simp only [Option.some.injEq, Prod.mk.injEq] at hr
            obtain ⟨rfl, rfl, rfl, rfl⟩ := hr
            exact wp_exit (wpT_out hd a w (hR a w hs))
        · simp only [Option.some.injEq, Prod.mk.injEq] at hr
          obtain ⟨rfl, rfl, rfl, rfl⟩ := hr
          exact wp_ret (wpT_ret a w (hR a w hs))
        · rename_i c x y
          have hev : ∀ b, opT (look s.E) c = some (.cv (.one (.b (.lit (.bool b))))) → a.eval c = .bool b := by
            intro b hb
            obtain ⟨N, g, h1, h2⟩ := hs
            cases c with
            | tmp t =>
              have : [a.tmps.getD t undef] = [.bool b] := h1.slots t _ hb
              injection this
            | const v =>
              have : [v] = [.bool b] := constTV_sem (N := N) (w := w) (g := g) hb
              injection this
            | global q => cases hb
            | func q => simp only [opT, tlit, Option.some.injEq] at hb; injection hb with hb; injection hb with hb; injection hb with hb; injection hb with hb
          split at hr
          · rename_i hb
            have := runT_sound hr ho hR a w hs
            simp only [wpT] at this
            exact wp_cond_true (hev true hb) this
          · rename_i hb
            have := runT_sound hr ho hR a w hs
            simp only [wpT] at this
            exact wp_cond_false (hev false hb) this
          · cases hr
        · rename_i id ops draw
          split at hr
          · rename_i E B os1 h1 hro
            split at hr
            · rename_i ex1 s1 os2 r2 hrec
              simp only [Option.some.injEq, Prod.mk.injEq] at hr
              obtain ⟨rfl, rfl, rfl, rfl⟩ := hr
              obtain ⟨ho1, ho2⟩ := ho.app
              obtain ⟨N, g, hs1, hs2⟩ := hs
              exact regT_sound hro ho1.plain hs1 hs2 fun N' g' a' w' q1 q2 => runT_sound hrec ho2 hR a' w' ⟨N', g', q1, q2⟩
            · cases hr
          · cases hr
        · rename_i c
          split at hr
          · rename_i c0 aa ex0 bb h'
            split at hr
            · rename_i a' hre
              have hst := restr_sem hre hs
              split at hr
              · rename_i id
                split at hr
                · rename_i k' hd
                  split at hr
                  · rename_i ex1 s1 os1 r1 hrec
                    simp only [Option.some.injEq, Prod.mk.injEq] at hr
                    obtain ⟨rfl, rfl, rfl, rfl⟩ := hr
                    obtain ⟨h1, h2⟩ := ho.cons
                    refine wp_mono (h1 N0 w0 a w hst) ?_
                    rintro e a2 w2 ⟨rfl, h3⟩
                    exact wpT_drop hd a2 w2 (runT_sound hrec h2 hR a2 w2 h3)
                  · cases hr
                · rename_i hd
                  simp only [Option.some.injEq, Prod.mk.injEq] at hr
                  obtain ⟨rfl, rfl, rfl, rfl⟩ := hr
                  obtain ⟨h1, h2⟩ := ho.cons
                  refine wp_mono (h1 N0 w0 a w hst) ?_
                  rintro e a2 w2 ⟨rfl, h3⟩
                  exact wpT_out hd a2 w2 (hR a2 w2 h3)
              · simp only [Option.some.injEq, Prod.mk.injEq] at hr
                obtain ⟨rfl, rfl, rfl, rfl⟩ := hr
                obtain ⟨h1, h2⟩ := ho.cons
                refine wp_mono (h1 N0 w0 a w hst) ?_
                rintro e a2 w2 ⟨rfl, h3⟩
                exact wpT_ret a2 w2 (hR a2 w2 h3)
              · cases hr
            · cases hr
          · cases hr
        · cases hr
end
end Go.Proofs.YtociocengfjioaaGreatDoor

/- Functions and loops in types. -/
namespace Go.Proofs.YtociocengfjioaaGreatDoor
open Go Go.RowKit
set_option linter.unusedVariables false
set_option linter.unusedSimpArgs false

def startE : Nat → List CT → Env
  | _, [] => []
  | i, c :: r => (i, .cv c) :: startE (i + 1) r
def resOne (P : Program) (s : St) : ResultVar → Option CT
  | .tmp t => match look s.E t with
    | some (.cv c) => some c
    | _ => none
  | .cell a t => match look s.E a with
    | some (.cv (.one (.ptr k off))) => match lookB s.B k with
      | some e => match partT P t e.its off [] with
        | some (c, [], _) => some c
        | _ => none
      | none => none
    | _ => none
def resL (P : Program) (s : St) : List ResultVar → Option (List CT)
  | [] => some []
  | x :: r => match resOne P s x, resL P s r with
    | some c, some l => some (c :: l)
    | _, _ => none
def resT (P : Program) (fn : Func) (s : St) : Option TV :=
  match resL P s fn.results.toList with
  | some [c] => some (.cv c)
  | some l => some (.tu l)
  | none => none
def isRet : Exit → Bool
  | .ret => true
  | .normal => true
  | _ => false
def fnT (P : Program) (nt : Nat) (f : FuncId) (args : List CT) (fuel : Nat) (hs : List Ob) : Option (List Ob × TV) :=
  match P.funcs[f]? with
  | some fn => match fn.body with
    | some c =>
      if Nat.ble args.length fn.ntmps && Nat.beq fn.ntmps nt then
        match runT P nt fuel [.code c] ⟨startE 0 args, [], 0⟩ hs with
        | some (ex, s, os, []) =>
          if isRet ex then
            match resT P fn s with
            | some t => if t.noPtr then some (os, t) else none
            | none => none
          else none
        | _ => none
      else none
    | none => none
  | none => none

def resSem (tmps : Array Value) : ResultVar → Sem Value
  | .tmp t => pure (tmps.getD t undef)
  | .cell b t => do loadVar t (← asAddr (tmps.getD b undef))
theorem results_eq (fn : Func) (tmps : Array Value) : results fn tmps = (do
    let vs ← fn.results.mapM (resSem tmps)
    pure (if h : vs.size = 1 then vs[0] else .tuple vs)) := by
  unfold results
  have : (fun x : ResultVar => match x with
    | .tmp t => pure (tmps.getD t undef)
    | .cell a t => do loadVar t (← asAddr (tmps.getD a undef)) : ResultVar → Sem Value) = resSem tmps := by
    funext x; cases x <;> rfl
  rw [← this]
  rfl
section
variable {P : Program} {I : WInv} {nt : Nat} {N0 : Nat → Prop} {w0 : Grd}
theorem startE_look {N : Nat → Prop} {w : World} {g : Gh} : ∀ {args : List CT} {vs pre : List Value} {rest : List Value}, all2 (CT.sem N w g) args vs → ∀ t v, look (startE pre.length args) t = some v → v.sem N w g ((pre ++ vs ++ rest).getD t undef)
  | [], vs, pre, rest, h, t, v, hv => by cases hv
  | c :: args, vs, pre, rest, ⟨x, l, e, h1, h2⟩, t, v, hv => by
    simp only [startE, look] at hv
    split at hv
    · rename_i ht
      have ht' := Nat.eq_of_beq_eq_true ht
      injection hv with hv
      subst hv ht' e
      have e1 : (pre ++ (x :: l) ++ rest).getD pre.length undef = x := by simp
      rw [e1]
      exact h1
    · subst e
      have := startE_look (pre := pre ++ [x]) (rest := rest) h2 t v (by simpa using hv)
      simpa using this
theorem all2_len {R : CT → Value → Prop} : ∀ {args : List CT} {vs : List Value}, all2 R args vs → vs.length = args.length
  | [], vs, h => by rw [show vs = [] from h]; rfl
  | c :: args, vs, ⟨x, l, e, h1, h2⟩ => by rw [e, List.length_cons, all2_len h2, List.length_cons]
theorem resOne_run {s : St} {N : Nat → Prop} {g : Gh} {a : Act} {w : World} (hs : Sat I N0 w0 nt N g (look s.E) (lookB s.B) a w) {x : ResultVar} {c : CT} (h : resOne P s x = some c) :
    ∃ v, (resSem a.tmps x).run P w = .ok v w ∧ c.sem N w g v := by
  unfold resOne at h
  split at h
  · rename_i t
    split at h
    · rename_i c' hl
      injection h with h
      subst h
      exact ⟨_, rfl, hs.slots t _ hl⟩
    · cases h
  · rename_i b t
    split at h
    · rename_i k off hl
      split at h
      · rename_i e hb
        split at h
        · rename_i c' r hp
          injection h with h
          subst h
          obtain ⟨bb, hg, he⟩ := hs.slots b _ hl
          injection he with he
          obtain ⟨cs, m, h1, h2, h3, h4, h5, h6, h7, h8⟩ := (hs.boxes k e hb).at hg
          obtain ⟨q, n, ha, hn, k1, hl2, hsem⟩ := partT_load (I := I) hp (fun o ho => by cases ho) h2
          refine ⟨_, ?_, hsem⟩
          simp only [resSem, Sem.run_bind, he, asAddr, Sem.run_pure, Result.andThen_ok, loadVar_run ha hn k1 w cs e.T h1 hl2]
        · cases h
      · cases h
    · cases h
theorem resL_run {s : St} {N : Nat → Prop} {g : Gh} {a : Act} {w : World} (hs : Sat I N0 w0 nt N g (look s.E) (lookB s.B) a w) : ∀ {xs : List ResultVar} {cs : List CT}, resL P s xs = some cs →
    ∃ vs, (xs.mapM (resSem a.tmps)).run P w = .ok vs w ∧ all2 (CT.sem N w g) cs vs
  | [], cs, h => by
    simp only [resL, Option.some.injEq] at h
    subst h
    exact ⟨[], rfl, rfl⟩
  | x :: xs, cs, h => by
    simp only [resL] at h
    split at h
    · rename_i c l h1 h2
      injection h with h
      subst h
      obtain ⟨v, r1, r2⟩ := resOne_run hs h1
      obtain ⟨vs, r3, r4⟩ := resL_run hs h2
      refine ⟨v :: vs, ?_, ⟨v, vs, rfl, r2, r4⟩⟩
      simp only [List.mapM_cons, Sem.run_bind, r1, Result.andThen_ok, r3, Sem.run_pure]
    · cases h
theorem resT_run {fn : Func} {s : St} {N : Nat → Prop} {g : Gh} {a : Act} {w : World} (hs : Sat I N0 w0 nt N g (look s.E) (lookB s.B) a w) {t : TV} (h : resT P fn s = some t) : ∃ v, (results fn a.tmps).run P w = .ok v w ∧ t.sem N w g v := by
  have hm : ∀ vs, (fn.results.toList.mapM (resSem a.tmps)).run P w = .ok vs w → (results fn a.tmps).run P w = .ok (if h : vs.toArray.size = 1 then vs.toArray[0] else .tuple vs.toArray) w := by
    intro vs hv
    rw [results_eq, Sem.run_bind, Array.mapM_eq_mapM_toList, map_eq_pure_bind, Sem.run_bind, hv]
    simp
  unfold resT at h
  split at h
  · rename_i c hl
    injection h with h
    subst h
    obtain ⟨vs, r1, ⟨v, l, rfl, r2, r3⟩⟩ := resL_run hs hl
    have : l = [] := r3
    subst this
    exact ⟨v, hm _ r1, r2⟩
  · rename_i l hne hl
    injection h with h
    subst h
    obtain ⟨vs, r1, r2⟩ := resL_run hs hl
    refine ⟨.tuple vs.toArray, ?_, vs, rfl, r2⟩
    rw [hm _ r1]
    have hlen := all2_len r2
    have : vs.toArray.size ≠ 1 := by
      simp only [List.size_toArray, hlen]
      intro h1
      match l, hne, h1 with
      | [c], hne, _ => exact hne c rfl
    rw [dif_neg this]
  · cases h
theorem nz_nx {N : Nat → Prop} {w w' : World} {rig : Nat → Option GV} {le lo} {b : Nat} (h : Nz N ⟨w, fun b => b < w.heap.size, rig, le, lo⟩ w' b) : Nx N w w' b := h.imp id fun h => ⟨Nat.not_lt.1 h.1, h.2⟩
theorem below_k {w w' : World} (h : KBelow (fun b => b < w.heap.size) w w') : Below w.heap.size w w' := ⟨h.os, h.tape, h.output, h.size, h.block⟩
theorem sp_of {f : FuncId} {args : List CT} {fuel : Nat} {hs os : List Ob} {res : TV} (h : fnT P nt f args fuel hs = some (os, res)) (ho : Owed2 P I nt os) : Sp P I f args res := by
  unfold fnT at h
  split at h
  · rename_i fn hf
    split at h
    · rename_i c hb
      split at h
      · rename_i hn
        simp only [Bool.and_eq_true] at hn
        have hnt : fn.ntmps = nt := Nat.eq_of_beq_eq_true hn.2
        have hle := Nat.le_of_ble_eq_true hn.1
        split at h
        · rename_i ex s os' hr
          split at h
          · rename_i hex
            split at h
            · rename_i t ht
              split at h
              · rename_i hnp
                simp only [Option.some.injEq, Prod.mk.injEq] at h
                obtain ⟨rfl, rfl⟩ := h
                intro N w vs hI hlow hargs
                have hlen := all2_len hargs
                refine calls_of_wp hf hb ?_
                have hst : StSem I N ⟨w, fun b => b < w.heap.size, fun _ => none, fun _ h => h, fun _ _ h => by cases h⟩ nt ⟨startE 0 args, [], 0⟩ { tmps := vs.toArray ++ Array.replicate (fn.ntmps - vs.toArray.size) undef, defers := [] } w := by
                  refine ⟨N, G0, ⟨?_, ?_, ?_, hlow, fun b hb => .inl hb, fun b hb => hb, KBelow.refl _ _, ?_, rfl, hI, fun _ _ h => by cases h⟩, fun k _ => rfl⟩
                  · intro t v hv
                    have := startE_look (pre := []) (rest := (Array.replicate (fn.ntmps - vs.toArray.size) undef).toList) hargs t v hv
                    have e : (vs.toArray ++ Array.replicate (fn.ntmps - vs.toArray.size) undef).getD t undef = (([] : List Value) ++ vs ++ (Array.replicate (fn.ntmps - vs.toArray.size) undef).toList).getD t undef := by
                      rw [Array.getD_eq_getD_getElem?, List.getD_eq_getElem?_getD, ← Array.getElem?_toList, Array.toList_append]; rfl
                    show v.sem N w G0 ((vs.toArray ++ Array.replicate (fn.ntmps - vs.toArray.size) undef).getD t undef)
                    rw [e]
                    exact this
                  · intro k e he; cases he
                  · intro k j e e' b he; cases he
                  · simp only [Array.size_append, List.size_toArray, Array.size_replicate]; omega
                have := runT_sound (R := bodyPost P fn fun e w' => ∃ v, e = .returned v ∧ t.sem (Nx N w w') w' G0 v ∧ Below w.heap.size w w') hr ho (fun a' w' hs' => by
                  obtain ⟨N', g', q1, q2⟩ := hs'
                  obtain ⟨v, r1, r2⟩ := resT_run q1 ht
                  have hfin : a'.defers = [] ∧ ∃ v, (results fn a'.tmps).run P w' = .ok v w' ∧ ∃ v', Ending.returned v = .returned v' ∧ t.sem (Nx N w w') w' G0 v' ∧ Below w.heap.size w w' :=
                    ⟨q1.defers, v, r1, v, rfl, TV.noPtr_sem hnp (TV.step r2 (WStep.refl _ _) (fun b hb => nz_nx (q1.sub b hb)) (GExt.refl _)), below_k q1.below⟩
                  cases ex <;> first | exact hfin | cases hex) _ w hst
                simp only [wpT] at this
                exact this
              · cases h
            · cases h
          · cases h
        · cases h
      · cases h
    · cases h
  · cases h
/-- a function that hands out a slice of its own -/
def fnN (P : Program) (nt : Nat) (f : FuncId) (args : List CT) (K : Nat) (fuel : Nat) (hs : List Ob) : Option (List Ob × Option (List CT) × Ent) :=
  match P.funcs[f]? with
  | some fn => match fn.body with
    | some c =>
      if Nat.ble args.length fn.ntmps && Nat.beq fn.ntmps nt then
        match runT P nt fuel [.code c] ⟨startE 0 args, [], 0⟩ hs with
        | some (ex, s, os, []) =>
          if isRet ex then
            match resT P fn s, lookB s.B K with
            | some (.cv (.one (.sl k))), some e => if Nat.beq k K && e.sl.isSome then some (os, none, e) else none
            | some (.tu (.one (.sl k) :: l)), some e => if Nat.beq k K && l.all CT.noPtr && e.sl.isSome then some (os, some l, e) else none
            | _, _ => none
          else none
        | _ => none
      else none
    | none => none
  | none => none
theorem spn_end {N' : Nat → Prop} {w w' : World} {g : Gh} {K : Nat} {e : Ent} {rest : Option (List CT)} {v : Value} (hb : BoxSem N' w' g (fun b => b < w.heap.size) K e) (hn : e.its.all It.noPtr = true) (hs : e.sl.isSome = true) (hr : restOk rest = true) (hv : (resN K rest).sem N' w' g v) :
    ∃ A n c, (resN 0 rest).sem N' w' (one0 (.sl A n c)) v ∧ BoxSem N' w' (one0 (.sl A n c)) (fun b => b < w.heap.size) 0 e := by
  obtain ⟨⟨s, n⟩, hs⟩ := Option.isSome_iff_exists.1 hs
  obtain ⟨A, c, xs, hg, hown, hsem, hblk⟩ := hb.own hs
  refine ⟨A, n, c, ?_, ?_⟩
  · have key : ∀ {u : Value}, (CT.one (.sl K)).sem N' w' g u → (CT.one (.sl 0)).sem N' w' (one0 (.sl A n c)) u := by
      rintro u ⟨A', n', c', h1, h2⟩
      rw [hg] at h1
      injection h1 with h1
      injection h1 with q1 q2 q3
      subst q1 q2 q3
      exact ⟨A, n, c, rfl, h2⟩
    cases rest with
    | none => exact key hv
    | some l =>
      obtain ⟨vs, e, u, r, e2, h1, h2⟩ := hv
      exact ⟨vs, e, u, r, e2, key h1, all2_noPtr hr h2⟩
  · obtain ⟨gv, h1, h2⟩ := hb
    rw [hg] at h1
    injection h1 with h1
    subst h1
    refine ⟨_, rfl, ?_⟩
    rcases h2 with ⟨s, n, r1, r2, r3, r4⟩ | ⟨b, cs, l, r1, r2, r3, r4⟩
    · exact .inl ⟨s, n, r1, r2, r3, semL_noPtr hn r4⟩
    · exact .inr ⟨b, cs, l, r1, r2, semL_noPtr hn r3, r4⟩
theorem spn_of {f : FuncId} {args : List CT} {fuel K : Nat} {hs os : List Ob} {rest : Option (List CT)} {e : Ent} (h : fnN P nt f args K fuel hs = some (os, rest, e)) (hnp : e.its.all It.noPtr = true) (ho : Owed2 P I nt os) : SpN P I f args rest e := by
  unfold fnN at h
  split at h
  · rename_i fn hf
    split at h
    · rename_i c hb
      split at h
      · rename_i hn
        simp only [Bool.and_eq_true] at hn
        have hnt : fn.ntmps = nt := Nat.eq_of_beq_eq_true hn.2
        have hle := Nat.le_of_ble_eq_true hn.1
        split at h
        · rename_i ex s os' hr
          split at h
          · rename_i hex
            have hfinal : ∃ t, resT P fn s = some t ∧ t = resN K rest ∧ lookB s.B K = some e ∧ restOk rest = true ∧ e.sl.isSome = true ∧ os' = os := by
              split at h
              · rename_i k e1 ht he
                split at h
                · rename_i hc
                  simp only [Bool.and_eq_true] at hc
                  simp only [Option.some.injEq, Prod.mk.injEq] at h
                  obtain ⟨rfl, rfl, rfl⟩ := h
                  have := Nat.eq_of_beq_eq_true hc.1
                  subst this
                  exact ⟨_, ht, rfl, he, rfl, hc.2, rfl⟩
                · cases h
              · rename_i k l e1 ht he
                split at h
                · rename_i hc
                  simp only [Bool.and_eq_true] at hc
                  simp only [Option.some.injEq, Prod.mk.injEq] at h
                  obtain ⟨rfl, rfl, rfl⟩ := h
                  have := Nat.eq_of_beq_eq_true hc.1.1
                  subst this
                  exact ⟨_, ht, rfl, he, hc.1.2, hc.2, rfl⟩
                · cases h
              · cases h
            obtain ⟨t, ht, rfl, he, h1, h3, rfl⟩ := hfinal
            refine ⟨hnp, ?_⟩
            intro N w vs hI hlow hargs
            have hlen := all2_len hargs
            refine calls_of_wp hf hb ?_
            have hst : StSem I N ⟨w, fun b => b < w.heap.size, fun _ => none, fun _ h => h, fun _ _ h => by cases h⟩ nt ⟨startE 0 args, [], 0⟩ { tmps := vs.toArray ++ Array.replicate (fn.ntmps - vs.toArray.size) undef, defers := [] } w := by
              refine ⟨N, G0, ⟨?_, ?_, ?_, hlow, fun b hb => .inl hb, fun b hb => hb, KBelow.refl _ _, ?_, rfl, hI, fun _ _ h => by cases h⟩, fun k _ => rfl⟩
              · intro t v hv
                have := startE_look (pre := []) (rest := (Array.replicate (fn.ntmps - vs.toArray.size) undef).toList) hargs t v hv
                have e : (vs.toArray ++ Array.replicate (fn.ntmps - vs.toArray.size) undef).getD t undef = (([] : List Value) ++ vs ++ (Array.replicate (fn.ntmps - vs.toArray.size) undef).toList).getD t undef := by
                  rw [Array.getD_eq_getD_getElem?, List.getD_eq_getElem?_getD, ← Array.getElem?_toList, Array.toList_append]; rfl
                show v.sem N w G0 ((vs.toArray ++ Array.replicate (fn.ntmps - vs.toArray.size) undef).getD t undef)
                rw [e]
                exact this
              · intro k e he; cases he
              · intro k j e e' b he; cases he
              · simp only [Array.size_append, List.size_toArray, Array.size_replicate]; omega
            have := runT_sound (R := bodyPost P fn fun en w' => ∃ v N' A n c, en = .returned v ∧ (∀ b, N b → N' b) ∧ (∀ b, N' b → Nx N w w' b) ∧ (resN 0 rest).sem N' w' (one0 (.sl A n c)) v ∧ BoxSem N' w' (one0 (.sl A n c)) (fun b => b < w.heap.size) 0 e ∧ Below w.heap.size w w') hr ho (fun a' w' hs' => by
              obtain ⟨N', g', q1, q2⟩ := hs'
              obtain ⟨v, r1, r2⟩ := resT_run q1 ht
              obtain ⟨A, n, c, r3, r4⟩ := spn_end (q1.boxes K e he) hnp h3 h1 r2
              have hfin : a'.defers = [] ∧ ∃ v, (results fn a'.tmps).run P w' = .ok v w' ∧ ∃ v' N'' A n c, Ending.returned v = .returned v' ∧ (∀ b, N b → N'' b) ∧ (∀ b, N'' b → Nx N w w' b) ∧ (resN 0 rest).sem N'' w' (one0 (.sl A n c)) v' ∧ BoxSem N'' w' (one0 (.sl A n c)) (fun b => b < w.heap.size) 0 e ∧ Below w.heap.size w w' :=
                ⟨q1.defers, v, r1, v, N', A, n, c, rfl, q1.sup, fun b hb => nz_nx (q1.sub b hb), r3, r4, below_k q1.below⟩
              cases ex <;> first | exact hfin | cases hex) _ w hst
            simp only [wpT] at this
            exact this
          · cases h
        · cases h
      · cases h
    · cases h
  · cases h
/-- a function that is handed boxes: the boxes behind the call, and the result -/
def fnM (P : Program) (nt : Nat) (f : FuncId) (ins : Bxs) (args : List CT) (outs : Bxs) (fuel : Nat) (hs : List Ob) : Option (List Ob × TV × Bxs) :=
  match P.funcs[f]? with
  | some fn => match fn.body with
    | some c =>
      if Nat.ble args.length fn.ntmps && Nat.beq fn.ntmps nt then
        match runT P nt fuel [.code c] ⟨startE 0 args, ins, 3⟩ hs with
        | some (ex, s, os, []) =>
          if isRet ex then
            match resT P fn s, restB s.B outs with
            | some t, some B => some (os, t, B)
            | _, _ => none
          else none
        | _ => none
      else none
    | none => none
  | none => none
theorem lookB_ltB {nx : Nat} {B : Bxs} {k : Nat} {e : Ent} (h : ltB nx B = true) (he : lookB B k = some e) : k < nx := (ltB_look h he).1
theorem spm_of {f : FuncId} {args : List CT} {fuel : Nat} {ins outs : Bxs} {hs os : List Ob} {res : TV} (h : fnM P nt f ins args outs fuel hs = some (os, res, outs)) (ho : Owed2 P I nt os) : SpM P I f ins args outs res := by
  unfold fnM at h
  split at h
  · rename_i fn hf
    split at h
    · rename_i c hb
      split at h
      · rename_i hn
        simp only [Bool.and_eq_true] at hn
        have hnt : fn.ntmps = nt := Nat.eq_of_beq_eq_true hn.2
        have hle := Nat.le_of_ble_eq_true hn.1
        split at h
        · rename_i ex s os' hr
          split at h
          · rename_i hex
            split at h
            · rename_i t B ht hB
              · simp only [Option.some.injEq, Prod.mk.injEq] at h
                obtain ⟨rfl, rfl, rfl⟩ := h
                intro N K w g vs hI hlow hK hbx hinj hg2 hargs
                have hlen := all2_len hargs
                refine calls_of_wp hf hb ?_
                let G : Grd := ⟨w, K, fun k => if k < 2 then g k else none, hK, fun k v h => by
                  by_cases hk : k < 2
                  · exact hk
                  · rw [if_neg hk] at h; cases h⟩
                have hst : StSem I N G nt ⟨startE 0 args, ins, 3⟩ { tmps := vs.toArray ++ Array.replicate (fn.ntmps - vs.toArray.size) undef, defers := [] } w := by
                  refine ⟨N, g, ⟨?_, hbx, hinj, hlow, fun b hb => .inl hb, fun b hb => hb, KBelow.refl _ _, ?_, rfl, hI, fun k v h => ?_⟩, fun k hk => hg2 k (by have hk : 3 ≤ k := hk; omega)⟩
                  · intro t v hv
                    have := startE_look (pre := []) (rest := (Array.replicate (fn.ntmps - vs.toArray.size) undef).toList) hargs t v hv
                    have e : (vs.toArray ++ Array.replicate (fn.ntmps - vs.toArray.size) undef).getD t undef = (([] : List Value) ++ vs ++ (Array.replicate (fn.ntmps - vs.toArray.size) undef).toList).getD t undef := by
                      rw [Array.getD_eq_getD_getElem?, List.getD_eq_getElem?_getD, ← Array.getElem?_toList, Array.toList_append]; rfl
                    show v.sem N w g ((vs.toArray ++ Array.replicate (fn.ntmps - vs.toArray.size) undef).getD t undef)
                    rw [e]
                    exact this
                  · simp only [Array.size_append, List.size_toArray, Array.size_replicate]; omega
                  · have h : (if k < 2 then g k else none) = some v := h
                    by_cases hk : k < 2
                    · rw [if_pos hk] at h; exact h
                    · rw [if_neg hk] at h; cases h
                have := runT_sound (R := bodyPost P fn fun en w' => ∃ v N' g', en = .returned v ∧ (∀ b, N b → N' b) ∧ (∀ b, N' b → N b ∨ (¬ K b ∧ b < w'.heap.size)) ∧ KBelow K w w' ∧ (∀ k e, lookB B k = some e → BoxSem N' w' g' K k e) ∧
                    (∀ k j e e' b, lookB B k = some e → lookB B j = some e' → blkOf g' k = some b → blkOf g' j = some b → k = j) ∧ (∀ k u, k < 2 → g k = some u → g' k = some u) ∧ t.sem N' w' g' v) hr ho (fun a' w' hs' => by
                  obtain ⟨N', g', q1, q2⟩ := hs'
                  obtain ⟨v, r1, r2⟩ := resT_run q1 ht
                  have hrig : ∀ k, k < 2 → ∀ u, g k = some u → g' k = some u := fun k hk u hu => q1.rig k u (by show (if k < 2 then g k else none) = _; rw [if_pos hk]; exact hu)
                  have hfin : a'.defers = [] ∧ ∃ v, (results fn a'.tmps).run P w' = .ok v w' ∧ ∃ v' N'' g'', Ending.returned v = .returned v' ∧ (∀ b, N b → N'' b) ∧ (∀ b, N'' b → N b ∨ (¬ K b ∧ b < w'.heap.size)) ∧ KBelow K w w' ∧ (∀ k e, lookB B k = some e → BoxSem N'' w' g'' K k e) ∧
                      (∀ k j e e' b, lookB B k = some e → lookB B j = some e' → blkOf g'' k = some b → blkOf g'' j = some b → k = j) ∧ (∀ k u, k < 2 → g k = some u → g'' k = some u) ∧ t.sem N'' w' g'' v' :=
                    ⟨q1.defers, v, r1, v, N', g', rfl, q1.sup, q1.sub, q1.below, fun k e he => q1.boxes k e (restB_look hB k e he), fun k j e e' b h1 h2 => q1.inj k j e e' b (restB_look hB k e h1) (restB_look hB j e' h2), fun k u hk hu => hrig k hk u hu, r2⟩
                  cases ex <;> first | exact hfin | cases hex) _ w hst
                simp only [wpT] at this
                exact this
            · cases h
          · cases h
        · cases h
      · cases h
    · cases h
  · cases h
abbrev PO (P : Program) (I : WInv) (nt : Nat) := { o : Ob // o.more P I nt }
def obs (l : List (PO P I nt)) : List Ob := match l with
  | [] => []
  | x :: r => x.1 :: obs r
theorem obs_owed : ∀ (l : List (PO P I nt)), Owed2 P I nt (obs l)
  | [] => fun o ho => by cases ho
  | x :: r => fun o ho => by
    rcases List.mem_cons.1 ho with h | h
    · rw [h]; exact x.2
    · exact obs_owed r o h
/-- a function, by what it owes in the order of its text -/
theorem sp_run {f : FuncId} {args : List CT} {res : TV} (fuel : Nat) (l : List (PO P I nt)) (h : fnT P nt f args fuel (obs l) = some (obs l, res)) : Sp P I f args res := sp_of h (obs_owed l)

abbrev pa : PO P I nt := ⟨.auto, trivial⟩
abbrev pom (ks : List Nat) {f : FuncId} {ins outs : Bxs} {args : List CT} {res : TV} (h : SpM P I f ins args outs res) (h1 : NpB ins := by repeat' first | exact trivial | exact fun h => absurd h Bool.false_ne_true | exact fun _ => List.all_eq_true.2 (fun x hx => (List.mem_map.1 hx).elim fun y h => h.2 ▸ rfl) | refine ⟨?_, ?_⟩) (h2 : NpB outs := by repeat' first | exact trivial | exact fun h => absurd h Bool.false_ne_true | exact fun _ => List.all_eq_true.2 (fun x hx => (List.mem_map.1 hx).elim fun y h => h.2 ▸ rfl) | refine ⟨?_, ?_⟩) : PO P I nt := ⟨.spm f ks ins args outs res, h, h1, h2⟩
theorem spm_run {f : FuncId} {args : List CT} {ins outs : Bxs} {res : TV} (fuel : Nat) (l : List (PO P I nt)) (h : fnM P nt f ins args outs fuel (obs l) = some (obs l, res, outs)) : SpM P I f ins args outs res := spm_of h (obs_owed l)
theorem spn_run {f : FuncId} {args : List CT} {rest : Option (List CT)} {e : Ent} (K fuel : Nat) (l : List (PO P I nt)) (hn : e.its.all It.noPtr = true) (h : fnN P nt f args K fuel (obs l) = some (obs l, rest, e)) : SpN P I f args rest e := spn_of h hn (obs_owed l)

/-! ### loops -/
/-- the bodies of the loops of a text, in its order -/
def loopsOf : Code → List Code
  | .seq a b => loopsOf a ++ loopsOf b
  | .cond _ a b => loopsOf a ++ loopsOf b
  | .block _ a => loopsOf a
  | .loop a => a :: loopsOf a
  | .scope a => loopsOf a
  | _ => []
def loopC (P : Program) (f : FuncId) (i : Nat) : Code :=
  match P.funcs[f]? with
  | some fn => match fn.body with
    | some c => (loopsOf c).getD i .skip
    | none => .skip
  | none => .skip
abbrev pl {c : Code} {a b : St} {ex : Exit} (h : LoopTr P I nt c a ex b) : PO P I nt := ⟨.loop c a ex b, h⟩
abbrev pm {a b : St} (h : Leads I nt a b) : PO P I nt := ⟨.leads a b, h⟩
theorem wp_loop_n {c : Code} {Q : Exit → Act → World → Prop} (J : Nat → Act → World → Prop) (round : ∀ n a w, J n a w → c.wp P (Exit.then (fun a' w' => ∃ m, m < n ∧ J m a' w') Q) a w) (n : Nat) (a : Act) (w : World) (h0 : J n a w) : (Code.loop c).wp P Q a w := by
  intro b k cs
  have key : ∀ n a w, J n a w → ∃ e a' w', Q e a' w' ∧ Arrives P (lone (b.at a (.code c :: .inLoop c :: k)) cs w) b k cs e a' w' := by
    intro n
    induction n using Nat.strongRecOn with
    | _ n ih =>
      intro a w hI
      obtain ⟨e, a₁, w₁, hq, harr⟩ := round n a w hI b (.inLoop c :: k) cs
      cases e with
      | normal =>
        obtain ⟨m, hlt, hI₁⟩ := hq
        obtain ⟨e₂, a₂, w₂, hq₂, harr₂⟩ := ih m hlt a₁ w₁ hI₁
        exact ⟨e₂, a₂, w₂, hq₂, .of_steps (Steps.trans harr (.one step_inLoop)) harr₂⟩
      | exit id => exact ⟨_, a₁, w₁, hq, .pass (x := .inLoop c) rfl (fun _ _ => .inl (by simp)) harr⟩
      | goto l => exact ⟨_, a₁, w₁, hq, .pass (x := .inLoop c) rfl (fun _ _ => .inl (by simp)) harr⟩
      | ret => exact ⟨_, a₁, w₁, hq, .pass (x := .inLoop c) rfl (fun _ _ => .inl (by simp)) harr⟩
      | panic ch => exact ⟨_, a₁, w₁, hq, .pass (x := .inLoop c) rfl (fun _ _ => .inl (by simp)) harr⟩
      | outgrown => exact ⟨_, a₁, w₁, hq, .pass (x := .inLoop c) rfl (fun _ _ => .inl (by simp)) harr⟩
  obtain ⟨e, a', w', hq, harr⟩ := key n a w h0
  exact ⟨e, a', w', hq, .of_steps (.one step_loop) harr⟩
/-- a round: code c from the state s, ends with ex in (what is asked of) t -/
def Rnd (P : Program) (I : WInv) (nt : Nat) (c : Code) (s : St) (ex : Exit) (t : St) : Prop :=
  ∀ N0 w0 a w, StSem I N0 w0 nt s a w → c.wp P (fun e a' w' => e = ex ∧ StSem I N0 w0 nt t a' w') a w
theorem Rnd.leads {c : Code} {s : St} {ex : Exit} {t u : St} (h : Rnd P I nt c s ex t) (hl : Leads I nt t u) : Rnd P I nt c s ex u :=
  fun N0 w0 a w hs => wp_mono (h N0 w0 a w hs) fun e a' w' ⟨h1, h2⟩ => ⟨h1, hl N0 w0 a' w' h2⟩
def rndT (P : Program) (nt : Nat) (c : Code) (s : St) (fuel : Nat) (hs : List Ob) (t : St) : Option (Exit × List Ob × St) :=
  match runT P nt fuel [.code c] s hs with
  | some (ex, s', os, []) => match restr s' t with
    | some t' => some (ex, os, t')
    | none => none
  | _ => none
theorem rnd_run {c : Code} {s t : St} {ex : Exit} (fuel : Nat) (l : List (PO P I nt)) (h : rndT P nt c s fuel (obs l) t = some (ex, obs l, t)) : Rnd P I nt c s ex t := by
  unfold rndT at h
  split at h
  · rename_i ex' s' os hr
    split at h
    · rename_i t' hre
      simp only [Option.some.injEq, Prod.mk.injEq] at h
      obtain ⟨rfl, h2, rfl⟩ := h
      intro N0 w0 a w hs
      have := runT_sound (R := fun e a' w' => e = ex' ∧ StSem I N0 w0 nt t' a' w') hr (by rw [h2]; exact obs_owed l) (fun a' w' hs' => ⟨rfl, restr_sem hre hs'⟩) a w hs
      simp only [wpT] at this
      exact this
    · cases h
  · cases h
/-- a loop by a family of states; each round either goes on to a smaller one or ends as told -/
theorem loop_tr {ι : Type} {c : Code} {ex : Exit} {b : St} (hex : ex ≠ .normal) (s : ι → St) (mu : ι → Nat) (ok : ι → Prop) (i0 : ι) (h0 : ok i0) (round : ∀ i, ok i → (∃ j, ok j ∧ mu j < mu i ∧ Rnd P I nt c (s i) .normal (s j)) ∨ Rnd P I nt c (s i) ex b) : LoopTr P I nt c (s i0) ex b := by
  intro N0 w0 a w hs
  refine wp_loop_n (fun n a w => ∃ i, ok i ∧ mu i = n ∧ StSem I N0 w0 nt (s i) a w) ?_ (mu i0) a w ⟨i0, h0, rfl, hs⟩
  rintro n a w ⟨i, hok, rfl, hsi⟩
  rcases round i hok with ⟨j, hj1, hj2, hr⟩ | hr
  · refine wp_mono (hr N0 w0 a w hsi) ?_
    rintro e a' w' ⟨rfl, h2⟩
    exact ⟨mu j, hj2, j, hj1, rfl, h2⟩
  · refine wp_mono (hr N0 w0 a w hsi) ?_
    rintro e a' w' ⟨rfl, h2⟩
    cases e <;> first | exact ⟨rfl, h2⟩ | exact absurd rfl hex
end
end Go.Proofs.YtociocengfjioaaGreatDoor

/- Integers in types, and the contracts of the integer functions. -/
namespace Go.Proofs.YtociocengfjioaaGreatDoor
open Go Go.RowKit
set_option linter.unusedVariables false

theorem rd_step {N : Nat → Prop} {w w' : World} {A : Option Addr} {n : Nat} {xs : List Nat} (hw : WStep N w w') (h : Rd .u32 w w.heap.size A n xs) : Rd .u32 w' w'.heap.size A n xs := by
  refine ⟨h.1, fun hn => ?_⟩
  obtain ⟨b, off, hA, hb, hc⟩ := h.2 hn
  refine ⟨b, off, hA, Nat.lt_of_lt_of_le hb hw.size, fun j x hx => ?_⟩
  have h1 := hc j x hx
  rcases hw.keep b hb with e | e
  · rw [World.cell?_of_block (w := w) (a := ⟨b, off + j, none⟩) e]; exact h1
  · exfalso
    have hq := e.2
    cases ho : w.heap[b]? with
    | none => rw [ho] at hq; exact hq
    | some o =>
      rw [ho] at hq
      cases o with
      | cells cs T fr =>
        simp only [World.cell?, ho] at h1
        have hm : (Value.int .u32 (x : Int)) ∈ cs.toList := by
          simp at h1
          exact Array.mem_toList_iff.2 (Array.mem_of_getElem? h1)
        have := hq _ hm
        simp [notU32] at this
      | _ => exact hq
theorem AInt.step {N : Nat → Prop} {w w' : World} {s : Bool} {A : Option Addr} {n c : Nat} {z : Int} (h : AInt w s A n c z) (hw : WStep N w w') : AInt w' s A n c z := by
  obtain ⟨ds, h1, h2⟩ := h
  exact ⟨ds, rd_step hw h1, h2⟩
theorem CInt.step {N : Nat → Prop} {w w' : World} {s : Bool} {A : Option Addr} {n c : Nat} {z : Int} (h : CInt w s A n c z) (hw : WStep N w w') : CInt w' s A n c z := ⟨rd_step hw h.1, h.2⟩
/-- what an api.Int reads as -/
structure IntP where
  T : World → Bool → Option Addr → Nat → Nat → Prop
  step : ∀ {N : Nat → Prop} {w w' : World} {s : Bool} {A : Option Addr} {n c : Nat}, WStep N w w' → T w s A n c → T w' s A n c
def IP (q : IntP) : Item where
  n := 2
  T := fun _ w l => ∃ s A n c, l = [.bool s, .slice A n c] ∧ q.T w s A n c
  step := fun hw _ ⟨s, A, n, c, e, h⟩ => ⟨s, A, n, c, e, q.step hw h⟩
  len := fun ⟨s, A, n, c, e, h⟩ => by rw [e]; rfl
  one := fun ⟨s, A, n, c, e, h⟩ => by rw [e]; intro v hv; simp at hv; rcases hv with rfl | rfl <;> rfl
/-- a canonical api.Int -/
def cP (z : Int) : IntP := ⟨fun w s A n c => CInt w s A n c z, fun hw h => h.step hw⟩
/-- an api.Int with at most m digits, canonical or not -/
def aP (m : Nat) (z : Int) : IntP := ⟨fun w s A n c => AInt w s A n c z ∧ n ≤ m, fun hw h => ⟨h.1.step hw, h.2⟩⟩
abbrev ip (q : IntP) : List It := [.b (.it (IP q))]
abbrev ic (z : Int) : List It := ip (cP z)
abbrev ia (m : Nat) (z : Int) : List It := ip (aP m z)
/-- the nil integer -/
def litI : List It := [.b (.lit (.bool false)), .b (.lit (.slice none 0 0))]
/-- the cells read as the integer z, with few digits -/
def Num (x : List It) (z : Int) : Prop := ∀ N w l, semL N w G0 x l → ∃ s A n c, l = [.bool s, .slice A n c] ∧ AInt w s A n c z ∧ n ≤ 1048576
def Can (x : List It) (z : Int) : Prop := ∀ N w l, semL N w G0 x l → ∃ s A n c, l = [.bool s, .slice A n c] ∧ CInt w s A n c z
theorem semL_one {N : Nat → Prop} {w : World} {g : Gh} {x : It} {l : List Value} (h : semL N w g [x] l) : x.sem N w g l := by
  obtain ⟨l1, l2, e, h1, h2⟩ := h
  rw [show l2 = [] from h2, List.append_nil] at e
  rw [e]
  exact h1
theorem semL_one' {N : Nat → Prop} {w : World} {g : Gh} {x : It} {l : List Value} (h : x.sem N w g l) : semL N w g [x] l := ⟨l, [], by simp, h, rfl⟩
theorem can_ic (z : Int) : Can (ic z) z := fun N w l h => semL_one h
theorem can_lit : Can litI 0 := by
  intro N w l h
  obtain ⟨l1, l2, e, h1, l3, l4, e2, h3, h4⟩ := h
  rw [show l4 = [] from h4, show l3 = _ from h3] at e2
  rw [show l1 = _ from h1, e2] at e
  exact ⟨false, none, 0, 0, e, CInt.zero w⟩
theorem num_ic {z : Int} {k : Nat} (h : Lim k z) (hk : k ≤ 1048576) : Num (ic z) z := by
  intro N w l hl
  obtain ⟨s, A, n, c, e, hc⟩ := can_ic z N w l hl
  exact ⟨s, A, n, c, e, hc.any, Nat.le_trans (hc.len h) hk⟩
theorem num_ia {z : Int} {m : Nat} (hm : m ≤ 1048576) : Num (ia m z) z := by
  intro N w l hl
  obtain ⟨s, A, n, c, e, h, hn⟩ := semL_one hl
  exact ⟨s, A, n, c, e, h, Nat.le_trans hn hm⟩
theorem num_lit : Num litI 0 := by
  intro N w l hl
  obtain ⟨s, A, n, c, e, hc⟩ := can_lit N w l hl
  exact ⟨s, A, n, c, e, hc.any, Nat.le_trans (hc.len (k := 0) (by unfold Lim; decide)) (by decide)⟩

/-! ### from contracts of calls to contracts in types -/
theorem args1 {N : Nat → Prop} {w : World} {x : List It} {vs : List Value} (h : all2 (CT.sem N w G0) [.ag x] vs) : ∃ l, vs = [.agg l.toArray] ∧ semL N w G0 x l := by
  obtain ⟨v, r, e, ⟨l, e1, h1⟩, h2⟩ := h
  rw [show r = [] from h2] at e
  exact ⟨l, by rw [e, e1], h1⟩
theorem args2 {N : Nat → Prop} {w : World} {x y : List It} {vs : List Value} (h : all2 (CT.sem N w G0) [.ag x, .ag y] vs) : ∃ l m, vs = [.agg l.toArray, .agg m.toArray] ∧ semL N w G0 x l ∧ semL N w G0 y m := by
  obtain ⟨v, r, e, ⟨l, e1, h1⟩, h2⟩ := h
  obtain ⟨m, e2, h3⟩ := args1 h2
  exact ⟨l, m, by rw [e, e1, e2], h1, h3⟩
theorem argsI {N : Nat → Prop} {w : World} {u : Value} {vs : List Value} (h : all2 (CT.sem N w G0) [.one (.b (.lit u))] vs) : vs = [u] := by
  obtain ⟨v, r, e, h1, h2⟩ := h
  have h1 : [v] = [u] := h1
  injection h1 with h1
  rw [show r = [] from h2] at e
  rw [e, h1]
abbrev tic (z : Int) : TV := .cv (.ag (ic z))
theorem retInt_sem {N : Nat → Prop} {w w' : World} {z : Int} {e : Ending} (h : RetInt w z e w') : ∃ v, e = .returned v ∧ (tic z).sem (Nx N w w') w' G0 v ∧ Below w.heap.size w w' := by
  obtain ⟨s, A, n, c, e1, h1, h2⟩ := h
  exact ⟨_, e1, ⟨[.bool s, .slice A n c], rfl, semL_one' ⟨s, A, n, c, rfl, h1⟩⟩, h2⟩
theorem retV_sem {N : Nat → Prop} {w w' : World} {u : Value} {e : Ending} (h : RetV w u e w') : ∃ v, e = .returned v ∧ (tlit u).sem (Nx N w w') w' G0 v ∧ Below w.heap.size w w' := ⟨u, h.1, (rfl : [u] = [u]), h.2⟩
/-- a contract at narrower types -/
theorem Sp.sub {P : Program} {I : WInv} {f : FuncId} {args args' : List CT} {res : TV} (h : Sp P I f args res) (hs : ∀ N w vs, all2 (CT.sem N w G0) args' vs → all2 (CT.sem N w G0) args vs) : Sp P I f args' res :=
  fun N w vs hI hl hv => h N w vs hI hl (hs N w vs hv)
section
variable {I : WInv} {x y : List It} {a b : Int}
theorem sp1 {f : FuncId} {r : Int} (h : ∀ (w : World) (s : Bool) (A : Option Addr) (n c : Nat), AInt w s A n c a → n ≤ 1048576 → Calls Tryz.prog f #[.agg #[.bool s, .slice A n c]] w (RetInt w r)) (hx : Num x a) : Sp Tryz.prog I f [.ag x] (tic r) := by
  intro N w vs _ _ hv
  obtain ⟨l, rfl, h1⟩ := args1 hv
  obtain ⟨s, A, n, c, rfl, h2, h3⟩ := hx N w l h1
  exact (h w s A n c h2 h3).mono fun e w' he => retInt_sem he
theorem sp1V {f : FuncId} {u : Value} (h : ∀ (w : World) (s : Bool) (A : Option Addr) (n c : Nat), AInt w s A n c a → n ≤ 1048576 → Calls Tryz.prog f #[.agg #[.bool s, .slice A n c]] w (RetV w u)) (hx : Num x a) : Sp Tryz.prog I f [.ag x] (tlit u) := by
  intro N w vs _ _ hv
  obtain ⟨l, rfl, h1⟩ := args1 hv
  obtain ⟨s, A, n, c, rfl, h2, h3⟩ := hx N w l h1
  exact (h w s A n c h2 h3).mono fun e w' he => retV_sem he
theorem sp2 {f : FuncId} {r : Int} (h : ∀ (w : World) (s t : Bool) (A A' : Option Addr) (n c n' c' : Nat), AInt w s A n c a → AInt w t A' n' c' b → n ≤ 1048576 → n' ≤ 1048576 → Calls Tryz.prog f #[.agg #[.bool s, .slice A n c], .agg #[.bool t, .slice A' n' c']] w (RetInt w r)) (hx : Num x a) (hy : Num y b) : Sp Tryz.prog I f [.ag x, .ag y] (tic r) := by
  intro N w vs _ _ hv
  obtain ⟨l, m, rfl, h1, h1'⟩ := args2 hv
  obtain ⟨s, A, n, c, rfl, h2, h3⟩ := hx N w l h1
  obtain ⟨s', A', n', c', rfl, h2', h3'⟩ := hy N w m h1'
  exact (h w s s' A A' n c n' c' h2 h2' h3 h3').mono fun e w' he => retInt_sem he
theorem sp2V {f : FuncId} {u : Value} (h : ∀ (w : World) (s t : Bool) (A A' : Option Addr) (n c n' c' : Nat), AInt w s A n c a → AInt w t A' n' c' b → n ≤ 1048576 → n' ≤ 1048576 → Calls Tryz.prog f #[.agg #[.bool s, .slice A n c], .agg #[.bool t, .slice A' n' c']] w (RetV w u)) (hx : Num x a) (hy : Num y b) : Sp Tryz.prog I f [.ag x, .ag y] (tlit u) := by
  intro N w vs _ _ hv
  obtain ⟨l, m, rfl, h1, h1'⟩ := args2 hv
  obtain ⟨s, A, n, c, rfl, h2, h3⟩ := hx N w l h1
  obtain ⟨s', A', n', c', rfl, h2', h3'⟩ := hy N w m h1'
  exact (h w s s' A A' n c n' c' h2 h2' h3 h3').mono fun e w' he => retV_sem he
abbrev tdm (q r code : Int) : TV := .tu [.ag (ic q), .ag (ic r), .one (.b (.lit (.int .i64 code)))]
theorem sp2D {f : FuncId} (h : ∀ (w : World) (s t : Bool) (A A' : Option Addr) (n c n' c' : Nat), AInt w s A n c a → AInt w t A' n' c' b → n ≤ 1048576 → n' ≤ 1048576 → Calls Tryz.prog f #[.agg #[.bool s, .slice A n c], .agg #[.bool t, .slice A' n' c']] w (RetDM w a b)) (hx : Num x a) (hy : Num y b) (hb : b ≠ 0) : Sp Tryz.prog I f [.ag x, .ag y] (tdm (a.fdiv b) (a.fmod b) 0) := by
  intro N w vs _ _ hv
  obtain ⟨l, m, rfl, h1, h1'⟩ := args2 hv
  obtain ⟨s, A, n, c, rfl, h2, h3⟩ := hx N w l h1
  obtain ⟨s', A', n', c', rfl, h2', h3'⟩ := hy N w m h1'
  refine (h w s s' A A' n c n' c' h2 h2' h3 h3').mono fun e w' he => ?_
  obtain ⟨s1, A1, n1, c1, s2, A2, n2, c2, code, e1, k1, k2, k3, k4⟩ := he
  rw [if_neg hb] at k2 k3
  exact ⟨_, e1, ⟨_, rfl, _, _, rfl, ⟨_, rfl, semL_one' ⟨s1, A1, n1, c1, rfl, k1⟩⟩, _, _, rfl, ⟨_, rfl, semL_one' ⟨s2, A2, n2, c2, rfl, k2⟩⟩, _, _, rfl, by rw [k3]; exact (rfl : [_] = [_]), rfl⟩, k4⟩

theorem add_sp (hx : Num x a) (hy : Num y b) : Sp Tryz.prog I 52 [.ag x, .ag y] (tic (a + b)) := sp2 (fun w s t A A' n c n' c' h1 h2 h3 h4 => add_any w h1 h2 (by omega) (by omega)) hx hy
theorem sub_sp (hx : Num x a) (hy : Num y b) : Sp Tryz.prog I 54 [.ag x, .ag y] (tic (a - b)) := sp2 (fun w s t A A' n c n' c' h1 h2 h3 h4 => sub_any w h1 h2 (by omega) (by omega)) hx hy
theorem mul_sp (hx : Num x a) (hy : Num y b) : Sp Tryz.prog I 41 [.ag x, .ag y] (tic (a * b)) := sp2 (fun w s t A A' n c n' c' h1 h2 h3 h4 => mul_any w h1 h2 (by omega) (by omega)) hx hy
theorem neg_sp (hx : Num x a) : Sp Tryz.prog I 48 [.ag x] (tic (-a)) := sp1 (fun w s A n c h1 h2 => negate_any w h1 (by omega)) hx
theorem abs_sp (hx : Num x a) : Sp Tryz.prog I 50 [.ag x] (tic (a.natAbs : Int)) := sp1 (fun w s A n c h1 h2 => abs_any w h1 (by omega)) hx
theorem gcd_sp (hx : Num x a) (hy : Num y b) : Sp Tryz.prog I 85 [.ag x, .ag y] (tic (Nat.gcd a.natAbs b.natAbs : Nat)) := sp2 (fun w s t A A' n c n' c' h1 h2 h3 h4 => gcd_any w h1 h2 (by omega) (by omega)) hx hy
theorem sign_sp (k : Int) (hx : Num x a) (hk : a.sign = k) : Sp Tryz.prog I 46 [.ag x] (tlit (.int .i64 k)) := sp1V (fun w s A n c h1 h2 => by subst hk; exact sign_any w h1) hx
theorem cmp_sp (k : Int) (hx : Num x a) (hy : Num y b) (hk : cmpz a b = k) : Sp Tryz.prog I 44 [.ag x, .ag y] (tlit (.int .i64 k)) := sp2V (fun w s t A A' n c n' c' h1 h2 h3 h4 => by subst hk; exact compare_any w h1 h2 (by omega) (by omega)) hx hy
theorem dm_sp (hx : Num x a) (hy : Num y b) (hb : b ≠ 0) : Sp Tryz.prog I 86 [.ag x, .ag y] (tdm (a.fdiv b) (a.fmod b) 0) := sp2D (fun w s t A A' n c n' c' h1 h2 h3 h4 => divMod_any w h1 h2 (by omega) (by omega)) hx hy hb
theorem i64_sp (k : Int) (h1 : -9223372036854775808 ≤ k) (h2 : k ≤ 9223372036854775807) : Sp Tryz.prog I 59 [.one (.b (.lit (.int .i64 k)))] (tic k) := by
  intro N w vs _ _ hv
  rw [argsI hv]
  exact (fromInt64_any k w h1 h2).mono fun e w' he => retInt_sem he
theorem radd_sp (hx : Num x a) (hy : Num y b) : Sp Tryz.prog I 53 [.ag x, .ag y] (tic (a + b)) := sp2 (fun w s t A A' n c n' c' h1 h2 h3 h4 => refAdd_any w h1 h2 (by omega) (by omega)) hx hy
theorem rsub_sp (hx : Num x a) (hy : Num y b) : Sp Tryz.prog I 117 [.ag x, .ag y] (tic (a - b)) := sp2 (fun w s t A A' n c n' c' h1 h2 h3 h4 => refSub_any w h1 h2 (by omega) (by omega)) hx hy
theorem rmul_sp (hx : Num x a) (hy : Num y b) : Sp Tryz.prog I 43 [.ag x, .ag y] (tic (a * b)) := sp2 (fun w s t A A' n c n' c' h1 h2 h3 h4 => refMul_any w h1 h2 (by omega) (by omega)) hx hy
theorem rneg_sp (hx : Num x a) : Sp Tryz.prog I 49 [.ag x] (tic (-a)) := sp1 (fun w s A n c h1 h2 => refNegate_any w h1 (by omega)) hx
theorem rabs_sp (hx : Num x a) : Sp Tryz.prog I 51 [.ag x] (tic (a.natAbs : Int)) := sp1 (fun w s A n c h1 h2 => refAbs_any w h1 (by omega)) hx
theorem rcanon_sp (hx : Num x a) : Sp Tryz.prog I 80 [.ag x] (tic a) := sp1 (fun w s A n c h1 h2 => canon_any w h1 (by omega)) hx
theorem rgcd_sp (hx : Num x a) (hy : Num y b) : Sp Tryz.prog I 81 [.ag x, .ag y] (tic (Nat.gcd a.natAbs b.natAbs : Nat)) := sp2 (fun w s t A A' n c n' c' h1 h2 h3 h4 => refGcd_any w h1 h2 (by omega) (by omega)) hx hy
theorem rsign_sp (k : Int) (hx : Num x a) (hk : a.sign = k) : Sp Tryz.prog I 42 [.ag x] (tlit (.int .i64 k)) := sp1V (fun w s A n c h1 h2 => by subst hk; exact refSign_any w h1 (by omega)) hx
theorem rcmp_sp (k : Int) (hx : Num x a) (hy : Num y b) (hk : cmpz a b = k) : Sp Tryz.prog I 45 [.ag x, .ag y] (tlit (.int .i64 k)) := sp2V (fun w s t A A' n c n' c' h1 h2 h3 h4 => by subst hk; exact refCompare_any w h1 h2 (by omega) (by omega)) hx hy
theorem rdm_sp (hx : Num x a) (hy : Num y b) (hb : b ≠ 0) : Sp Tryz.prog I 82 [.ag x, .ag y] (tdm (a.fdiv b) (a.fmod b) 0) := sp2D (fun w s t A A' n c n' c' h1 h2 h3 h4 => refDivMod_any w h1 h2 (by omega) (by omega)) hx hy hb
theorem ri64_sp (k : Int) (h1 : -9223372036854775808 ≤ k) (h2 : k ≤ 9223372036854775807) : Sp Tryz.prog I 101 [.one (.b (.lit (.int .i64 k)))] (tic k) := by
  intro N w vs _ _ hv
  rw [argsI hv]
  exact (refFromInt64_any k w h1 h2).mono fun e w' he => retInt_sem he
theorem same_sp (k : Bool) (hx : Can x a) (hy : Can y b) (hk : decide (a = b) = k) : Sp Tryz.prog I 78 [.ag x, .ag y] (tlit (.bool k)) := by
  intro N w vs _ _ hv
  obtain ⟨l, m, rfl, h1, h1'⟩ := args2 hv
  obtain ⟨s, A, n, c, rfl, h2⟩ := hx N w l h1
  obtain ⟨s', A', n', c', rfl, h2'⟩ := hy N w m h1'
  subst hk
  exact (sameInt_any w h2 h2').mono fun e w' he => retV_sem he
end
/-- the table of powers of ten -/
theorem po_sp {P : Program} {I : WInv} {nt : Nat} {f : FuncId} {args : List CT} {res : TV} (h : Sp P I f args res) : (Ob.sp f args res).more P I nt := h
abbrev po {P : Program} {I : WInv} {nt : Nat} {f : FuncId} {args : List CT} {res : TV} (h : Sp P I f args res) : PO P I nt := ⟨.sp f args res, h⟩
abbrev pon {P : Program} {I : WInv} {nt : Nat} {f : FuncId} {args : List CT} {rest : Option (List CT)} {e : Ent} (h : SpN P I f args rest e) : PO P I nt := ⟨.spn f args rest e, h⟩
abbrev pk {P : Program} {I : WInv} {nt : Nat} {k : OpK} {ts : List TV} {res : TV} (h : OpOb P k ts res) : PO P I nt := ⟨.op k ts res, h⟩
end Go.Proofs.YtociocengfjioaaGreatDoor

/- Contracts of single operations; contracts at other types. -/
namespace Go.Proofs.YtociocengfjioaaGreatDoor
open Go Go.RowKit
set_option linter.unusedVariables false
set_option linter.unusedSimpArgs false

section
variable {P : Program}
theorem op_lit {k : OpK} {vs : List Value} {v : Value} (h : ∀ w, (k.run vs).run P w = .ok v w) : OpOb P k (vs.map tlit) (tlit v) := by
  intro N w g us hu
  have e : us = vs := by
    have : ∀ (vs us : List Value), all2T (TV.sem N w g) (vs.map tlit) us → us = vs := by
      intro vs
      induction vs with
      | nil => intro us h; exact h
      | cons v vs ih =>
        rintro us ⟨u, l, e, h1, h2⟩
        have h1 : [u] = [v] := h1
        injection h1 with h1
        rw [e, h1, ih l h2]
    exact this vs us hu
  subst e
  exact ⟨v, w, h w, Below.refl _ _, (rfl : [v] = [v])⟩
abbrev li (z : Int) : TV := tlit (.int .i64 z)
abbrev lb (b : Bool) : TV := tlit (.bool b)
abbrev ci (z : Int) : CT := .one (.b (.lit (.int .i64 z)))
abbrev cb (b : Bool) : CT := .one (.b (.lit (.bool b)))
abbrev R64 (z : Int) : Prop := -9223372036854775808 ≤ z ∧ z ≤ 9223372036854775807
theorem b_add (t : TypeId) (x y : Int) (h : R64 (x + y)) : OpOb P (.bin .add t) [li x, li y] (li (x + y)) := op_lit (vs := [.int .i64 x, .int .i64 y]) fun w => by simp [OpK.run, eqGuard, binOp, Op.intArith, IntWalk.i64_in _ h]
theorem b_sub (t : TypeId) (x y : Int) (h : R64 (x - y)) : OpOb P (.bin .sub t) [li x, li y] (li (x - y)) := op_lit (vs := [.int .i64 x, .int .i64 y]) fun w => by simp [OpK.run, eqGuard, binOp, Op.intArith, IntWalk.i64_in _ h]
theorem b_mul (t : TypeId) (x y : Int) (h : R64 (x * y)) : OpOb P (.bin .mul t) [li x, li y] (li (x * y)) := op_lit (vs := [.int .i64 x, .int .i64 y]) fun w => by simp [OpK.run, eqGuard, binOp, Op.intArith, IntWalk.i64_in _ h]
theorem b_quo (t : TypeId) (x y : Int) (hy : y ≠ 0) (h : R64 (x.tdiv y)) : OpOb P (.bin .quo t) [li x, li y] (li (x.tdiv y)) := op_lit (vs := [.int .i64 x, .int .i64 y]) fun w => by simp [OpK.run, eqGuard, binOp, Op.intDiv, hy, IntWalk.i64_in _ h]
theorem b_rem (t : TypeId) (x y : Int) (hy : y ≠ 0) : OpOb P (.bin .rem t) [li x, li y] (li (x.tmod y)) := op_lit (vs := [.int .i64 x, .int .i64 y]) fun w => by simp [OpK.run, eqGuard, binOp, Op.intDiv, hy]
theorem b_lss (t : TypeId) (x y : Int) (b : Bool) (h : decide (x < y) = b) : OpOb P (.bin .lss t) [li x, li y] (lb b) := op_lit (vs := [.int .i64 x, .int .i64 y]) fun w => by subst h; simp [OpK.run, eqGuard, binOp, Op.intCmp]
theorem b_leq (t : TypeId) (x y : Int) (b : Bool) (h : decide (x ≤ y) = b) : OpOb P (.bin .leq t) [li x, li y] (lb b) := op_lit (vs := [.int .i64 x, .int .i64 y]) fun w => by subst h; simp [OpK.run, eqGuard, binOp, Op.intCmp]
theorem b_gtr (t : TypeId) (x y : Int) (b : Bool) (h : decide (y < x) = b) : OpOb P (.bin .gtr t) [li x, li y] (lb b) := op_lit (vs := [.int .i64 x, .int .i64 y]) fun w => by subst h; simp [OpK.run, eqGuard, binOp, Op.intCmp]
theorem b_geq (t : TypeId) (x y : Int) (b : Bool) (h : decide (y ≤ x) = b) : OpOb P (.bin .geq t) [li x, li y] (lb b) := op_lit (vs := [.int .i64 x, .int .i64 y]) fun w => by subst h; simp [OpK.run, eqGuard, binOp, Op.intCmp]
theorem b_eql (t : TypeId) (x y : Int) (b : Bool) (h : decide (x = y) = b) : OpOb P (.bin .eql t) [li x, li y] (lb b) := op_lit (vs := [.int .i64 x, .int .i64 y]) fun w => by subst h; simp [OpK.run, eqGuard, binOp, Op.intCmp]; rfl
theorem b_neq (t : TypeId) (x y : Int) (b : Bool) (h : decide (x = y) = !b) : OpOb P (.bin .neq t) [li x, li y] (lb b) := op_lit (vs := [.int .i64 x, .int .i64 y]) fun w => by
  have : (x != y) = b := by
    have h2 : (x == y) = !b := by rw [← h]; rfl
    rw [bne, h2]; simp
  simp [OpK.run, eqGuard, binOp, Op.intCmp, this]
theorem bT_lss (t : TypeId) (x y : Int) (h : x < y := by omega) : OpOb P (.bin .lss t) [li x, li y] (lb true) := b_lss t x y true (decide_eq_true h)
theorem bF_lss (t : TypeId) (x y : Int) (h : ¬ x < y := by omega) : OpOb P (.bin .lss t) [li x, li y] (lb false) := b_lss t x y false (decide_eq_false h)
theorem bT_leq (t : TypeId) (x y : Int) (h : x ≤ y := by omega) : OpOb P (.bin .leq t) [li x, li y] (lb true) := b_leq t x y true (decide_eq_true h)
theorem bF_leq (t : TypeId) (x y : Int) (h : ¬ x ≤ y := by omega) : OpOb P (.bin .leq t) [li x, li y] (lb false) := b_leq t x y false (decide_eq_false h)
theorem bT_gtr (t : TypeId) (x y : Int) (h : y < x := by omega) : OpOb P (.bin .gtr t) [li x, li y] (lb true) := b_gtr t x y true (decide_eq_true h)
theorem bF_gtr (t : TypeId) (x y : Int) (h : ¬ y < x := by omega) : OpOb P (.bin .gtr t) [li x, li y] (lb false) := b_gtr t x y false (decide_eq_false h)
theorem bT_geq (t : TypeId) (x y : Int) (h : y ≤ x := by omega) : OpOb P (.bin .geq t) [li x, li y] (lb true) := b_geq t x y true (decide_eq_true h)
theorem bF_geq (t : TypeId) (x y : Int) (h : ¬ y ≤ x := by omega) : OpOb P (.bin .geq t) [li x, li y] (lb false) := b_geq t x y false (decide_eq_false h)
theorem bT_eql (t : TypeId) (x y : Int) (h : x = y := by omega) : OpOb P (.bin .eql t) [li x, li y] (lb true) := b_eql t x y true (decide_eq_true h)
theorem bF_eql (t : TypeId) (x y : Int) (h : ¬ x = y := by omega) : OpOb P (.bin .eql t) [li x, li y] (lb false) := b_eql t x y false (decide_eq_false h)
theorem bT_neq (t : TypeId) (x y : Int) (h : ¬ x = y := by omega) : OpOb P (.bin .neq t) [li x, li y] (lb true) := b_neq t x y true (decide_eq_false h)
theorem bF_neq (t : TypeId) (x y : Int) (h : x = y := by omega) : OpOb P (.bin .neq t) [li x, li y] (lb false) := b_neq t x y false (decide_eq_true h)
theorem u_neg (x : Int) (h : R64 (-x)) : OpOb P (.un .neg) [li x] (li (-x)) := op_lit (vs := [.int .i64 x]) fun w => by
  have : IntKind.i64.wrap (0 - x) = -x := by rw [Int.zero_sub]; exact IntWalk.i64_in _ h
  simp only [OpK.run, Op.unary, Op.intArith, this]
  rfl
theorem u_not (b : Bool) : OpOb P (.un .not) [lb b] (lb (!b)) := op_lit (vs := [.bool b]) fun w => by simp only [OpK.run, Op.unary]; rfl

/-! ### contracts at other types -/
variable {I : WInv} {f : FuncId}
/-- a result that says less -/
theorem Sp.res {args : List CT} {res res' : TV} (h : Sp P I f args res) (hs : ∀ N w v, res.sem N w G0 v → res'.sem N w G0 v) : Sp P I f args res' :=
  fun N w vs hI hl hv => (h N w vs hI hl hv).mono fun e w' ⟨v, h1, h2, h3⟩ => ⟨v, h1, hs _ _ _ h2, h3⟩
/-- arguments that are of one of several types -/
theorem Sp.ex {ι : Type} {ok : ι → Prop} {args' : List CT} {args : ι → List CT} {res : TV} (hs : ∀ N w vs, all2 (CT.sem N w G0) args' vs → ∃ i, ok i ∧ all2 (CT.sem N w G0) (args i) vs) (h : ∀ i, ok i → Sp P I f (args i) res) : Sp P I f args' res := by
  intro N w vs hI hl hv
  obtain ⟨i, h1, h2⟩ := hs N w vs hv
  exact h i h1 N w vs hI hl h2

/-! ### digits -/
/-- a slice of words -/
def DS (ds : List Nat) : Item where
  n := 1
  T := fun _ w l => ∃ A c, l = [.slice A ds.length c] ∧ Rd .u32 w w.heap.size A ds.length ds ∧ ds.length ≤ c ∧ c ≤ 9223372036854775807
  step := fun hw _ ⟨A, c, e, h, hc⟩ => ⟨A, c, e, rd_step hw h, hc⟩
  len := fun ⟨A, c, e, h⟩ => by rw [e]; rfl
  one := fun ⟨A, c, e, h⟩ => by rw [e]; intro v hv; simp at hv; subst hv; rfl
/-- the address of a word -/
def PU (d : Nat) : Item where
  n := 1
  T := fun _ w l => ∃ b o, l = [.pointer (some ⟨b, o, none⟩)] ∧ b < w.heap.size ∧ w.cell? ⟨b, o, none⟩ = some (.int .u32 d)
  step := fun {N N' w w' l} hw _ ⟨b, o, e, h1, h2⟩ => by
    have := rd_step (A := some ⟨b, o, none⟩) (n := 1) (xs := [d]) hw ⟨rfl, fun _ => ⟨b, o, rfl, h1, fun j x hx => by
      cases j with
      | zero => simp at hx; subst hx; simpa using h2
      | succ j => simp at hx⟩⟩
    obtain ⟨b', o', e1, h3, h4⟩ := this.2 (by omega)
    injection e1 with e1
    injection e1 with e1 e2
    subst e1 e2
    exact ⟨b, o, e, h3, by simpa using h4 0 d rfl⟩
  len := fun ⟨b, o, e, h⟩ => by rw [e]; rfl
  one := fun ⟨b, o, e, h⟩ => by rw [e]; intro v hv; simp at hv; subst hv; rfl
theorem all2T_one {N : Nat → Prop} {w : World} {g : Gh} {t : TV} {vs : List Value} (h : all2T (TV.sem N w g) [t] vs) : ∃ v, vs = [v] ∧ t.sem N w g v := by
  obtain ⟨v, l, e, h1, h2⟩ := h
  rw [show l = [] from h2] at e
  exact ⟨v, e, h1⟩
theorem all2T_two {N : Nat → Prop} {w : World} {g : Gh} {t u : TV} {vs : List Value} (h : all2T (TV.sem N w g) [t, u] vs) : ∃ v x, vs = [v, x] ∧ t.sem N w g v ∧ u.sem N w g x := by
  obtain ⟨v, l, e, h1, h2⟩ := h
  obtain ⟨x, e2, h3⟩ := all2T_one h2
  exact ⟨v, x, by rw [e, e2], h1, h3⟩
abbrev tit (i : Item) : TV := .cv (.one (.b (.it i)))
theorem ds_len (t e ty : TypeId) (ds : List Nat) (ht : P.underlying t = some (.slice e)) : OpOb P (.len #[t] ty) [tit (DS ds)] (li ds.length) := by
  intro N w g vs hv
  obtain ⟨v, rfl, A, c, e1, h⟩ := all2T_one hv
  injection e1 with e1
  subst e1
  exact ⟨_, w, by simp [OpK.run, Builtin.len_, underlying_run ht, goInt], Below.refl _ _, (rfl : [_] = [_])⟩
theorem ds_idx (t e : TypeId) (ds : List Nat) (i : Nat) (z : Int) (d : Nat) (ht : P.underlying t = some (.slice e)) (hs : sizeB P e = some 1) (hz : z = (i : Int)) (hd : ds[i]? = some d) : OpOb P (.idxA t) [tit (DS ds), li z] (tit (PU d)) := by
  intro N w g vs hv
  obtain ⟨v, x, rfl, ⟨A, c, e1, h, _⟩, h2⟩ := all2T_two hv
  injection e1 with e1
  subst e1 hz
  have h2 : [x] = [.int .i64 (i : Int)] := h2
  injection h2 with h2
  subst h2
  have hlt : i < ds.length := (List.getElem?_eq_some_iff.1 hd).1
  obtain ⟨b, off, hA, hb, hc⟩ := h.2 (by omega)
  subst hA
  refine ⟨.pointer (some ⟨b, off + i, none⟩), w, ?_, Below.refl _ _, ⟨b, off + i, rfl, hb, hc i d hd⟩⟩
  have h3 : (i : Int) < (ds.length : Int) := by omega
  simp [OpK.run, Instr.indexAt, asIntOf, underlying_run ht, sizeB_run hs, addr_add, hlt]
theorem pu_load (t : TypeId) (d : Nat) (ha : aggB P t = some false) : OpOb P (.load t) [tit (PU d)] (tlit (.int .u32 d)) := by
  intro N w g vs hv
  obtain ⟨v, rfl, b, o, e1, h1, h2⟩ := all2T_one hv
  injection e1 with e1
  subst e1
  exact ⟨_, w, by simp [OpK.run, Instr.loadAt, Instr.sureAddr, loadVar, aggB_run ha, Go.load, Sem.run, h2], Below.refl _ _, (rfl : [_] = [_])⟩
theorem u32_lss (t : TypeId) (x y : Nat) (b : Bool) (h : decide (x < y) = b) : OpOb P (.bin .lss t) [tlit (.int .u32 x), tlit (.int .u32 y)] (lb b) := op_lit (vs := [.int .u32 x, .int .u32 y]) fun w => by subst h; simp [OpK.run, eqGuard, binOp, Op.intCmp]
theorem u32_i64 (s t : TypeId) (x : Nat) (hs : P.underlying s = some (.int .u32)) (ht : P.underlying t = some (.int .i64)) (h : x < 4294967296) : OpOb P (.conv s t) [tlit (.int .u32 x)] (li x) := op_lit (vs := [.int .u32 x]) fun w => by
  simp [OpK.run, convert, underlying_run hs, underlying_run ht, Conv.intToInt, IntWalk.i64_in (x : Int) (by omega)]
end
end Go.Proofs.YtociocengfjioaaGreatDoor

/- Plain facts about fractions. -/
namespace Go.Proofs.YtociocengfjioaaGreatDoor
set_option linter.unusedVariables false

theorem rat_num_pos {n d : Int} (hd : 0 < d) : (Rat.divInt n d).num = n.fdiv (Nat.gcd n.natAbs d.natAbs : Nat) := by
  rw [Rat.num_divInt, Int.sign_eq_one_of_pos hd, Int.one_mul, Int.fdiv_eq_ediv_of_nonneg _ (Int.natCast_nonneg _), Int.gcd, Nat.gcd_comm]
theorem rat_den_pos {n d : Int} (hd : 0 < d) : ((Rat.divInt n d).den : Int) = d.fdiv (Nat.gcd n.natAbs d.natAbs : Nat) := by
  rw [Rat.den_divInt, if_neg (by omega), Int.fdiv_eq_ediv_of_nonneg _ (Int.natCast_nonneg _), Int.gcd, Nat.gcd_comm]
  have : d = (d.natAbs : Int) := by omega
  rw [Int.natCast_ediv, ← this]
theorem rat_neg (n d : Int) : Rat.divInt (-n) (-d) = Rat.divInt n d := Rat.neg_divInt_neg n d
theorem gcd_ne {n d : Int} (hd : d ≠ 0) : ((Nat.gcd n.natAbs d.natAbs : Nat) : Int) ≠ 0 := by
  have : 0 < Nat.gcd n.natAbs d.natAbs := Nat.gcd_pos_of_pos_right _ (by omega)
  omega
theorem fdiv_le {n : Int} {g : Nat} (hg : 0 < g) : (n.fdiv g).natAbs ≤ n.natAbs + 1 := fdiv_abs n g
/-- the numerator and the denominator of n / d are no larger than n and d -/
theorem num_le (n d : Int) : (Rat.divInt n d).num.natAbs ≤ n.natAbs := by
  rw [Rat.num_divInt]
  have h1 : ((d.sign * n) / (d.gcd n : Int)).natAbs ≤ (d.sign * n).natAbs := by
    rcases Nat.eq_zero_or_pos (d.gcd n) with h | h
    · rw [h]; simp
    · have hd : ((d.gcd n : Nat) : Int) ∣ d.sign * n := Int.dvd_trans (Int.gcd_dvd_right ..) (Int.dvd_mul_left _ _)
      rw [Int.natAbs_ediv_of_dvd hd]
      exact Nat.div_le_self _ _
  refine Nat.le_trans h1 ?_
  rw [Int.natAbs_mul]
  have : d.sign.natAbs ≤ 1 := by rw [Int.natAbs_sign]; split <;> omega
  calc d.sign.natAbs * n.natAbs ≤ 1 * n.natAbs := Nat.mul_le_mul_right _ this
    _ = n.natAbs := Nat.one_mul _
theorem den_le {n d : Int} (hd : d ≠ 0) : (Rat.divInt n d).den ≤ d.natAbs := by
  rw [Rat.den_divInt, if_neg hd]
  exact Nat.div_le_self _ _
theorem lim_num {k : Nat} {n d : Int} (h : Lim k n) : Lim k (Rat.divInt n d).num := Nat.lt_of_le_of_lt (num_le n d) h
theorem lim_den {k : Nat} {n d : Int} (h : Lim k d) (hk : 0 < k) : Lim k ((Rat.divInt n d).den : Int) := by
  unfold Lim at *
  rw [Int.natAbs_natCast]
  by_cases hd : d = 0
  · subst hd
    rw [Rat.divInt_zero]
    show 1 < _
    calc 1 < 4294967296 ^ 1 := by decide
      _ ≤ 4294967296 ^ k := Nat.pow_le_pow_right (by decide) hk
  · exact Nat.lt_of_le_of_lt (den_le hd) h
theorem den_pos' (q : Rat) : (0 : Int) < q.den := by have := q.den_pos; omega
theorem rat_self (q : Rat) : Rat.divInt q.num q.den = q := Rat.num_divInt_den q
/-- 1 is small -/
theorem lim_one {k : Nat} (hk : 0 < k) : Lim k 1 := by
  unfold Lim
  calc Int.natAbs 1 < 4294967296 ^ 1 := by decide
    _ ≤ 4294967296 ^ k := Nat.pow_le_pow_right (by decide) hk
theorem lim_zero (k : Nat) : Lim k 0 := by unfold Lim; exact Nat.pow_pos (by decide)
theorem lim_fdiv {k : Nat} {n g : Int} (h : Lim k n) (hg : 0 < g) : Lim k (n.fdiv g) := by
  unfold Lim at *
  refine Nat.lt_of_le_of_lt ?_ h
  rw [Int.fdiv_eq_ediv_of_nonneg _ (by omega)]
  rcases Int.le_total 0 n with hn | hn
  · have h1 : n / g ≤ n := Int.ediv_le_self _ hn
    have h2 : 0 ≤ n / g := Int.ediv_nonneg hn (by omega)
    omega
  · have h1 : n ≤ n / g := by
      have := Int.le_ediv_iff_mul_le (a := n) (b := n) hg
      refine this.2 ?_
      have : n * g ≤ n * 1 := Int.mul_le_mul_of_nonpos_left hn (by omega)
      omega
    have h2 : n / g ≤ 0 := by
      have := Int.ediv_le_ediv hg hn
      simpa using this
    omega
theorem lim_gcd {k : Nat} {n d : Int} (h : Lim k d) (hd : d ≠ 0) : Lim k ((Nat.gcd n.natAbs d.natAbs : Nat) : Int) := by
  unfold Lim at *
  rw [Int.natAbs_natCast]
  exact Nat.lt_of_le_of_lt (Nat.gcd_le_right _ (by omega)) h
end Go.Proofs.YtociocengfjioaaGreatDoor

/- Fractions of small numbers: smallWord, smallParts, small. -/
namespace Go.Proofs.YtociocengfjioaaGreatDoor
open Go Go.RowKit
set_option linter.unusedVariables false

/-- an integer that smallWord takes -/
def sP (z : Int) : IntP := ⟨fun w s A n c => ∃ ds, Rd .u32 w w.heap.size A n ds ∧ n = ds.length ∧ n ≤ 1 ∧ n ≤ c ∧ c ≤ 9223372036854775807 ∧ val ds < 2147483648 ∧ z = sgn s (val ds), fun hw ⟨ds, h1, h2⟩ => ⟨ds, rd_step hw h1, h2⟩⟩
/-- an integer that it does not take -/
def lP (z : Int) : IntP := ⟨fun w s A n c => ∃ ds, Rd .u32 w w.heap.size A n ds ∧ W32 ds ∧ n = ds.length ∧ n ≤ 1048576 ∧ n ≤ c ∧ c ≤ 9223372036854775807 ∧ z = sgn s (val ds) ∧ (2 ≤ ds.length ∨ ∃ d, ds = [d] ∧ 2147483648 ≤ d), fun hw ⟨ds, h1, h2⟩ => ⟨ds, rd_step hw h1, h2⟩⟩
theorem val_one (d : Nat) : val [d] = d := by simp [val]
theorem sP_lt {w : World} {s : Bool} {A : Option Addr} {n c : Nat} {z : Int} (h : (sP z).T w s A n c) : -2147483648 < z ∧ z < 2147483648 := by
  obtain ⟨ds, _, _, _, _, _, h1, rfl⟩ := h
  unfold sgn
  split <;> omega
theorem num_sP {z : Int} : Num (ip (sP z)) z := by
  intro N w l hl
  obtain ⟨s, A, n, c, e, ds, h1, h2, h3, h4, h5, h6, h7⟩ := semL_one hl
  refine ⟨s, A, n, c, e, ⟨ds, h1, ?_, h4, h5, h7⟩, by omega⟩
  intro d hd
  match ds, h2, h3, h6, hd with
  | [], _, _, _, hd => cases hd
  | [e], _, _, h6, hd => rw [val_one] at h6; simp at hd; omega
  | _ :: _ :: _, h2, h3, _, _ => simp at h2; omega
theorem num_lP {z : Int} : Num (ip (lP z)) z := by
  intro N w l hl
  obtain ⟨s, A, n, c, e, ds, h1, h2, h3, h4, h5, h6, h7, _⟩ := semL_one hl
  exact ⟨s, A, n, c, e, ⟨ds, h1, h2, h5, h6, h7⟩, h4⟩
/-- every integer is taken or not -/
theorem small_or {x : List It} {z : Int} (h : Num x z) {N : Nat → Prop} {w : World} {l : List Value} (hl : semL N w G0 x l) : semL N w G0 (ip (sP z)) l ∨ semL N w G0 (ip (lP z)) l := by
  obtain ⟨s, A, n, c, e, ⟨ds, h1, h2, h3, h4, h5⟩, h6⟩ := h N w l hl
  have hn : n = ds.length := h1.1.symm
  by_cases hs : ds.length ≤ 1 ∧ val ds < 2147483648
  · exact .inl (semL_one' ⟨s, A, n, c, e, ds, h1, hn, by omega, h3, h4, hs.2, h5⟩)
  · refine .inr (semL_one' ⟨s, A, n, c, e, ds, h1, h2, hn, h6, h3, h4, h5, ?_⟩)
    match ds, hs with
    | [], hs => exact absurd ⟨by simp, by simp [val]⟩ hs
    | [d], hs => right; refine ⟨d, rfl, ?_⟩; rw [val_one] at hs; simp at hs; exact hs
    | _ :: _ :: _, _ => left; simp
section
variable {I : WInv} {z n d : Int}
abbrev dsT (s : Bool) (ds : List Nat) : CT := .ag [.b (.lit (.bool s)), .b (.it (DS ds))]
theorem word_nil (s : Bool) : Sp Tryz.prog I 118 [dsT s []] (.tu [ci 0, cb true]) :=
  sp_run (nt := 29) 1000 [pk (ds_len 22 86 3 [] Tryz.underlying22)] (by kernel_rfl)
theorem word_neg (d : Nat) (h : d < 2147483648) : Sp Tryz.prog I 118 [dsT true [d]] (.tu [ci (-d), cb true]) :=
  sp_run (nt := 29) 1000 [pk (ds_len 22 86 3 [d] Tryz.underlying22),
    pk (ds_idx 22 86 [d] 0 0 d Tryz.underlying22 (by kernel_rfl) rfl rfl), pk (pu_load 86 d (by kernel_rfl)), pk (u32_lss 86 d 2147483648 true (by simpa using h)),
    pk (ds_idx 22 86 [d] 0 0 d Tryz.underlying22 (by kernel_rfl) rfl rfl), pk (pu_load 86 d (by kernel_rfl)), pk (u32_i64 86 2 d Tryz.underlying86 Tryz.underlying2 (by omega)), pk (u_neg d ⟨by omega, by omega⟩)] (by kernel_rfl)
theorem word_pos (d : Nat) (h : d < 2147483648) : Sp Tryz.prog I 118 [dsT false [d]] (.tu [ci d, cb true]) :=
  sp_run (nt := 29) 1000 [pk (ds_len 22 86 3 [d] Tryz.underlying22),
    pk (ds_idx 22 86 [d] 0 0 d Tryz.underlying22 (by kernel_rfl) rfl rfl), pk (pu_load 86 d (by kernel_rfl)), pk (u32_lss 86 d 2147483648 true (by simpa using h)),
    pk (ds_idx 22 86 [d] 0 0 d Tryz.underlying22 (by kernel_rfl) rfl rfl), pk (pu_load 86 d (by kernel_rfl)), pk (u32_i64 86 2 d Tryz.underlying86 Tryz.underlying2 (by omega))] (by kernel_rfl)
theorem word_big (s : Bool) (d : Nat) (h : 2147483648 ≤ d) : Sp Tryz.prog I 118 [dsT s [d]] (.tu [ci 0, cb false]) :=
  sp_run (nt := 29) 1000 [pk (ds_len 22 86 3 [d] Tryz.underlying22),
    pk (ds_idx 22 86 [d] 0 0 d Tryz.underlying22 (by kernel_rfl) rfl rfl), pk (pu_load 86 d (by kernel_rfl)), pk (u32_lss 86 d 2147483648 false (by simpa using h))] (by kernel_rfl)
theorem word_long (s : Bool) (ds : List Nat) (h : 2 ≤ ds.length) : Sp Tryz.prog I 118 [dsT s ds] (.tu [ci 0, cb false]) :=
  sp_run (nt := 29) 1000 [pk (ds_len 22 86 3 ds Tryz.underlying22), pk (b_eql 3 ds.length 0 false (decide_eq_false (by omega))), pk (b_eql 3 ds.length 1 false (decide_eq_false (by omega)))] (by kernel_rfl)
theorem open_ds {q : IntP} {ok : Bool × List Nat → Prop} (h : ∀ w s A n c, q.T w s A n c → ∃ ds, Rd .u32 w w.heap.size A n ds ∧ n = ds.length ∧ n ≤ c ∧ c ≤ 9223372036854775807 ∧ ok (s, ds)) :
    ∀ N w vs, all2 (CT.sem N w G0) [.ag (ip q)] vs → ∃ i, ok i ∧ all2 (CT.sem N w G0) [dsT i.1 i.2] vs := by
  intro N w vs hv
  obtain ⟨l, rfl, h1⟩ := args1 hv
  obtain ⟨s, A, n, c, rfl, h2⟩ := semL_one h1
  obtain ⟨ds, h3, rfl, hc1, hc2, h4⟩ := h w s A n c h2
  exact ⟨(s, ds), h4, _, _, rfl, ⟨_, rfl, [.bool s], [.slice A ds.length c], rfl, rfl, semL_one' ⟨A, c, rfl, h3, hc1, hc2⟩⟩, rfl⟩
theorem smallWord_yes : Sp Tryz.prog I 118 [.ag (ip (sP z))] (.tu [ci z, cb true]) := by
  refine Sp.ex (ok := fun i => i.2.length ≤ 1 ∧ val i.2 < 2147483648 ∧ z = sgn i.1 (val i.2)) (open_ds ?_) ?_
  · rintro w s A n c ⟨ds, h1, h2, h3, h4, h5, h6, h7⟩
    exact ⟨ds, h1, h2, h4, h5, by show ds.length ≤ 1; omega, h6, h7⟩
  · rintro ⟨s, ds⟩ ⟨h1, h2, h3⟩
    change ds.length ≤ 1 at h1
    change val ds < 2147483648 at h2
    change z = sgn s (val ds) at h3
    match ds, h1, h2, h3 with
    | [], _, _, h3 =>
      have : z = 0 := by rw [h3]; cases s <;> rfl
      subst this
      exact word_nil s
    | [d], _, h2, h3 =>
      rw [val_one] at h2 h3
      cases s with
      | true => rw [h3]; exact word_neg d h2
      | false => rw [h3]; exact word_pos d h2
    | _ :: _ :: _, h1, _, _ => simp at h1
theorem smallWord_no : Sp Tryz.prog I 118 [.ag (ip (lP z))] (.tu [ci 0, cb false]) := by
  refine Sp.ex (ok := fun i => 2 ≤ i.2.length ∨ ∃ d, i.2 = [d] ∧ 2147483648 ≤ d) (open_ds ?_) ?_
  · rintro w s A n c ⟨ds, h1, h2, h3, h4, h5, h6, h7, h8⟩
    exact ⟨ds, h1, h3, h5, h6, h8⟩
  · rintro ⟨s, ds⟩ (h | ⟨d, h1, h2⟩)
    · exact word_long s ds h
    · simp only at h1
      subst h1
      exact word_big s d h2
end
end Go.Proofs.YtociocengfjioaaGreatDoor

/- Fractions of small numbers: smallParts, small; fromWords. -/
namespace Go.Proofs.YtociocengfjioaaGreatDoor
open Go Go.RowKit
set_option linter.unusedVariables false

/-- some cells -/
def anyI (k : Nat) : Item where
  n := k
  T := fun _ _ l => l.length = k ∧ ∀ v ∈ l, okCell v = true
  step := fun _ _ h => h
  len := fun h => h.1
  one := fun h => h.2
/-- the numerator and the positive denominator that a fraction denotes -/
def pn (n d : Int) : Int := if d = 0 then 0 else if d < 0 then -n else n
def pd (d : Int) : Int := if d = 0 then 1 else if d < 0 then -d else d
theorem pd_pos (d : Int) : 0 < pd d := by unfold pd; split <;> (try split) <;> omega
theorem pn_pd (n d : Int) : Rat.divInt (pn n d) (pd d) = Rat.divInt n d := by
  unfold pn pd
  split
  · rename_i h; subst h; rw [Rat.divInt_zero, Rat.zero_divInt]
  · split
    · exact rat_neg n d
    · rfl
section
variable {I : WInv} {n d n' d' : Int}
abbrev fr (q1 q2 : IntP) : CT := .ag (ip q1 ++ ip q2)
abbrev wds (x y : Int) : CT := .ag [.b (.lit (.int .i64 x)), .b (.lit (.int .i64 y))]
abbrev S31 (z : Int) : Prop := -2147483648 < z ∧ z < 2147483648
theorem smallParts_yes (hn : S31 n) (hd : S31 d) : Sp Tryz.prog I 84 [fr (sP n) (sP d)] (.tu [wds (pn n d) (pd d), cb true]) := by
  by_cases h0 : d = 0
  · subst h0
    exact sp_run (nt := 40) 1000 [po (smallWord_yes (z := 0)), po (smallWord_yes (z := n)), pk (b_eql 2 0 0 true rfl)] (by kernel_rfl)
  · by_cases h1 : d < 0
    · have e1 : pn n d = -n := by unfold pn; rw [if_neg h0, if_pos h1]
      have e2 : pd d = -d := by unfold pd; rw [if_neg h0, if_pos h1]
      rw [e1, e2]
      exact sp_run (nt := 40) 1000 [po (smallWord_yes (z := d)), po (smallWord_yes (z := n)), pk (b_eql 2 d 0 false (decide_eq_false h0)), pk (b_lss 2 d 0 true (decide_eq_true h1)), pk (u_neg n ⟨by omega, by omega⟩), pk (u_neg d ⟨by omega, by omega⟩)] (by kernel_rfl)
    · have e1 : pn n d = n := by unfold pn; rw [if_neg h0, if_neg h1]
      have e2 : pd d = d := by unfold pd; rw [if_neg h0, if_neg h1]
      rw [e1, e2]
      exact sp_run (nt := 40) 1000 [po (smallWord_yes (z := d)), po (smallWord_yes (z := n)), pk (b_eql 2 d 0 false (decide_eq_false h0)), pk (b_lss 2 d 0 false (decide_eq_false h1))] (by kernel_rfl)
theorem smallParts_no1 {q : IntP} : Sp Tryz.prog I 84 [fr q (lP d)] (.tu [wds 0 0, cb false]) :=
  sp_run (nt := 40) 1000 [po (smallWord_no (z := d))] (by kernel_rfl)
theorem smallParts_no2 : Sp Tryz.prog I 84 [fr (lP n) (sP d)] (.tu [wds 0 0, cb false]) :=
  sp_run (nt := 40) 1000 [po (smallWord_yes (z := d)), po (smallWord_no (z := n))] (by kernel_rfl)
theorem small_yes (hn : S31 n) (hd : S31 d) (hn' : S31 n') (hd' : S31 d') : Sp Tryz.prog I 37 [fr (sP n) (sP d), fr (sP n') (sP d')] (.tu [wds (pn n d) (pd d), wds (pn n' d') (pd d'), cb true]) :=
  sp_run (nt := 24) 1000 [po (smallParts_yes hn hd), po (smallParts_yes hn' hd')] (by kernel_rfl)
abbrev any2 : CT := .ag [.b (.it (anyI 2))]
/-- the fractions are not both small -/
abbrev SmallNo (I : WInv) (q1 q2 q3 q4 : IntP) : Prop := Sp Tryz.prog I 37 [fr q1 q2, fr q3 q4] (.tu [any2, any2, cb false])
theorem wds_any {N : Nat → Prop} {w : World} {x y : Int} {v : Value} (h : (wds x y).sem N w G0 v) : any2.sem N w G0 v := by
  obtain ⟨vs, e, l1, l2, e1, h1, l3, l4, e2, h3, h4⟩ := h
  rw [show l4 = [] from h4, show l3 = _ from h3] at e2
  rw [show l1 = _ from h1, e2] at e1
  refine ⟨vs, e, semL_one' ?_⟩
  rw [e1]
  exact ⟨rfl, by intro v hv; simp at hv; rcases hv with rfl | rfl <;> rfl⟩
theorem res_any {f : FuncId} {args : List CT} {a b c d : Int} (h : Sp Tryz.prog I f args (.tu [wds a b, wds c d, cb false])) : Sp Tryz.prog I f args (.tu [any2, any2, cb false]) :=
  h.res fun N w v ⟨vs, e, x, l, e1, h1, y, l', e2, h2, h3⟩ => ⟨vs, e, x, l, e1, wds_any h1, y, l', e2, wds_any h2, h3⟩
theorem small_no1 {q q3 q4 : IntP} : SmallNo I q (lP d) q3 q4 :=
  res_any (a := 0) (b := 0) (c := 0) (d := 0) (sp_run (nt := 24) 1000 [po (smallParts_no1 (q := q) (d := d))] (by kernel_rfl))
theorem small_no2 {q3 q4 : IntP} : SmallNo I (lP n) (sP d) q3 q4 :=
  res_any (a := 0) (b := 0) (c := 0) (d := 0) (sp_run (nt := 24) 1000 [po (smallParts_no2 (n := n) (d := d))] (by kernel_rfl))
theorem small_no3 {q : IntP} (hn : S31 n) (hd : S31 d) : SmallNo I (sP n) (sP d) q (lP d') :=
  res_any (a := pn n d) (b := pd d) (c := 0) (d := 0) (sp_run (nt := 24) 1000 [po (smallParts_yes hn hd), po (smallParts_no1 (q := q) (d := d'))] (by kernel_rfl))
theorem small_no4 (hn : S31 n) (hd : S31 d) : SmallNo I (sP n) (sP d) (lP n') (sP d') :=
  res_any (a := pn n d) (b := pd d) (c := 0) (d := 0) (sp_run (nt := 24) 1000 [po (smallParts_yes hn hd), po (smallParts_no2 (n := n') (d := d'))] (by kernel_rfl))
theorem fr_split {q1 q2 : IntP} {N : Nat → Prop} {w : World} {v : Value} (h : (fr q1 q2).sem N w G0 v) : ∃ l m, v = .agg (l ++ m).toArray ∧ semL N w G0 (ip q1) l ∧ semL N w G0 (ip q2) m := by
  obtain ⟨vs, e, h⟩ := h
  obtain ⟨l, m, e2, h1, h2⟩ := semL_split h
  exact ⟨l, m, by rw [e, e2], h1, h2⟩
theorem fr_join {q1 q2 : IntP} {N : Nat → Prop} {w : World} {l m : List Value} (h1 : semL N w G0 (ip q1) l) (h2 : semL N w G0 (ip q2) m) : (fr q1 q2).sem N w G0 (.agg (l ++ m).toArray) := ⟨_, rfl, semL_append h1 h2⟩
theorem sP_31 {N : Nat → Prop} {w : World} {l : List Value} (h : semL N w G0 (ip (sP n)) l) : S31 n := by
  obtain ⟨s, A, k, c, e, h⟩ := semL_one h
  exact sP_lt h
/-- a contract for two fractions: once for small ones, once for others -/
theorem two_fracs {f : FuncId} {res : TV} {q1 q2 q3 q4 : IntP} (h1 : Num (ip q1) n) (h2 : Num (ip q2) d) (h3 : Num (ip q3) n') (h4 : Num (ip q4) d')
    (hs : S31 n → S31 d → S31 n' → S31 d' → Sp Tryz.prog I f [fr (sP n) (sP d), fr (sP n') (sP d')] res)
    (hl : ∀ p1 p2 p3 p4, Num (ip p1) n → Num (ip p2) d → Num (ip p3) n' → Num (ip p4) d' → SmallNo I p1 p2 p3 p4 → Sp Tryz.prog I f [fr p1 p2, fr p3 p4] res) : Sp Tryz.prog I f [fr q1 q2, fr q3 q4] res := by
  intro N w vs hI hlow hv
  obtain ⟨v, r, rfl, hv1, u, r2, rfl, hv2, hr⟩ := hv
  rw [show r2 = [] from hr]
  obtain ⟨l1, m1, rfl, a1, a2⟩ := fr_split hv1
  obtain ⟨l2, m2, rfl, a3, a4⟩ := fr_split hv2
  have go : ∀ {p1 p2 p3 p4}, Num (ip p1) n → Num (ip p2) d → Num (ip p3) n' → Num (ip p4) d' → SmallNo I p1 p2 p3 p4 → semL N w G0 (ip p1) l1 → semL N w G0 (ip p2) m1 → semL N w G0 (ip p3) l2 → semL N w G0 (ip p4) m2 → Calls Tryz.prog f [Value.agg (l1 ++ m1).toArray, .agg (l2 ++ m2).toArray].toArray w fun e w' => ∃ v, e = .returned v ∧ res.sem (Nx N w w') w' G0 v ∧ Below w.heap.size w w' :=
    fun k1 k2 k3 k4 hno b1 b2 b3 b4 => hl _ _ _ _ k1 k2 k3 k4 hno N w _ hI hlow ⟨_, _, rfl, fr_join b1 b2, _, _, rfl, fr_join b3 b4, rfl⟩
  rcases small_or h2 a2 with b2 | b2
  · rcases small_or h1 a1 with b1 | b1
    · rcases small_or h4 a4 with b4 | b4
      · rcases small_or h3 a3 with b3 | b3
        · exact hs (sP_31 b1) (sP_31 b2) (sP_31 b3) (sP_31 b4) N w _ hI hlow ⟨_, _, rfl, fr_join b1 b2, _, _, rfl, fr_join b3 b4, rfl⟩
        · exact go num_sP num_sP num_lP num_sP (small_no4 (sP_31 b1) (sP_31 b2)) b1 b2 b3 b4
      · exact go num_sP num_sP h3 num_lP (small_no3 (sP_31 b1) (sP_31 b2)) b1 b2 a3 b4
    · exact go num_lP num_sP h3 h4 small_no2 b1 b2 a3 a4
  · exact go h1 num_lP h3 h4 small_no1 a1 b2 a3 a4

/-! ### parts, in one form -/
abbrev iy (z : Int) : IntP := aP 1048576 z
theorem num_iy (z : Int) : Num (ip (iy z)) z := num_ia (Nat.le_refl _)
theorem iy_of {x : List It} {z : Int} (h : Num x z) {N : Nat → Prop} {w : World} {v : Value} (hv : (CT.ag x).sem N w G0 v) : (CT.ag (ip (iy z))).sem N w G0 v := by
  obtain ⟨vs, e, h1⟩ := hv
  obtain ⟨s, A, n, c, e2, h2, h3⟩ := h N w vs h1
  exact ⟨vs, e, semL_one' ⟨s, A, n, c, e2, h2, h3⟩⟩
theorem res_parts {f : FuncId} {args : List CT} {x y : List It} {a b : Int} (h : Sp Tryz.prog I f args (.tu [.ag x, .ag y])) (hx : Num x a) (hy : Num y b) : Sp Tryz.prog I f args (.tu [.ag (ip (iy a)), .ag (ip (iy b))]) :=
  h.res fun N w v ⟨vs, e, u, l, e1, h1, u2, l2, e2, h2, h3⟩ => ⟨vs, e, u, l, e1, iy_of hx h1, u2, l2, e2, iy_of hy h2, h3⟩
end
end Go.Proofs.YtociocengfjioaaGreatDoor

/- Fractions: parts and sign. -/
namespace Go.Proofs.YtociocengfjioaaGreatDoor
open Go Go.RowKit
set_option linter.unusedVariables false

section
variable {I : WInv} {q1 q2 : IntP} {n d : Int}
theorem parts_pos (h1 : Num (ip q1) n) (h2 : Num (ip q2) d) (hd : 0 < d) : Sp Tryz.prog I 39 [.ag (ip q1 ++ ip q2)] (.tu [.ag (ip q1), .ag (ip q2)]) :=
  sp_run (nt := 23) 1000 [po (sign_sp 1 h2 (Int.sign_eq_one_of_pos hd))] (by kernel_rfl)
theorem parts_neg (h1 : Num (ip q1) n) (h2 : Num (ip q2) d) (hd : d < 0) : Sp Tryz.prog I 39 [.ag (ip q1 ++ ip q2)] (.tu [.ag (ic (-n)), .ag (ic (-d))]) :=
  sp_run (nt := 23) 1000 [po (sign_sp (-1) h2 (Int.sign_eq_neg_one_of_neg hd)), po (neg_sp h1), po (neg_sp h2)] (by kernel_rfl)
theorem parts_zero (h2 : Num (ip q2) 0) : Sp Tryz.prog I 39 [.ag (ip q1 ++ ip q2)] (.tu [.ag litI, .ag (ic 1)]) :=
  sp_run (nt := 23) 1000 [po (sign_sp 0 h2 rfl), po (i64_sp 1 (by omega) (by omega))] (by kernel_rfl)
end
end Go.Proofs.YtociocengfjioaaGreatDoor

/- Fractions: fromWords, parts, reduce. -/
namespace Go.Proofs.YtociocengfjioaaGreatDoor
open Go Go.RowKit
set_option linter.unusedVariables false

/-- a canonical fraction -/
abbrev frc (q : Rat) : CT := fr (cP q.num) (cP (q.den : Int))
abbrev tfr (q : Rat) : TV := .cv (frc q)
theorem tmod_nat (b a : Nat) : (b : Int).tmod (a : Int) = ((b % a : Nat) : Int) := by
  rw [Int.tmod_eq_emod_of_nonneg (by omega), Int.natCast_emod]
def wst (x y a b : Int) : St := ⟨[(0, li x), (1, li y), (4, .cv (.one (.ptr 0 0))), (5, li a), (6, li b)], [(0, some ⟨26, none, litI ++ litI⟩)], 50⟩
section
variable {I : WInv}
theorem words_loop (x y : Int) (a0 b0 : Nat) : LoopTr Tryz.prog I 28 (loopC Tryz.prog 38 0) (wst x y a0 b0) (.exit 0) (wst x y 0 (Nat.gcd a0 b0 : Nat)) := by
  refine loop_tr (ι := Nat × Nat) (by simp) (fun i => wst x y i.1 i.2) (fun i => i.1) (fun i => Nat.gcd i.1 i.2 = Nat.gcd a0 b0) (a0, b0) rfl ?_
  rintro ⟨a, b⟩ hg
  change Nat.gcd a b = Nat.gcd a0 b0 at hg
  by_cases ha : a = 0
  · subst ha
    right
    rw [Nat.gcd_zero_left] at hg
    rw [← hg]
    exact rnd_run 1000 [pk (b_neq 2 ((0 : Nat) : Int) 0 false rfl)] (by kernel_rfl)
  · left
    refine ⟨(b % a, a), ?_, Nat.mod_lt _ (by omega), ?_⟩
    · show Nat.gcd (b % a) a = Nat.gcd a0 b0
      rw [← Nat.gcd_rec, hg]
    · have h : Rnd Tryz.prog I 28 (loopC Tryz.prog 38 0) (wst x y a b) .normal (wst x y ((b : Int).tmod (a : Int)) a) :=
        rnd_run 1000 [pk (b_neq 2 (a : Int) 0 true (decide_eq_false (by omega))), pk (b_rem 2 (b : Int) (a : Int) (by omega))] (by kernel_rfl)
      rw [tmod_nat] at h
      exact h
theorem tdiv_num {n d : Int} (hd : 0 < d) : n.tdiv (Nat.gcd n.natAbs d.natAbs : Nat) = (Rat.divInt n d).num := by
  rw [rat_num_pos hd, Int.fdiv_eq_ediv_of_nonneg _ (Int.natCast_nonneg _)]
  refine Int.tdiv_eq_ediv_of_dvd ?_
  have := Int.gcd_dvd_left (a := n) (b := d)
  exact this
theorem tdiv_den {n d : Int} (hd : 0 < d) : d.tdiv (Nat.gcd n.natAbs d.natAbs : Nat) = ((Rat.divInt n d).den : Int) := by
  rw [rat_den_pos hd, Int.fdiv_eq_ediv_of_nonneg _ (Int.natCast_nonneg _)]
  refine Int.tdiv_eq_ediv_of_dvd ?_
  have := Int.gcd_dvd_right (a := n) (b := d)
  exact this
theorem abs_num_le (n d : Int) (h : R64 n) (h' : -9223372036854775808 < n) : R64 (Rat.divInt n d).num := by
  have := num_le n d
  constructor <;> omega
theorem den_le64 {n d : Int} (hd : 0 < d) (h : R64 d) : R64 ((Rat.divInt n d).den : Int) := by
  have := den_le (n := n) (d := d) (by omega)
  constructor <;> omega
theorem fromWords_sp (x y : Int) (hx : -9223372036854775808 < x ∧ x ≤ 9223372036854775807) (hy : 0 < y ∧ y ≤ 9223372036854775807) : Sp Tryz.prog I 38 [ci x, ci y] (tfr (Rat.divInt x y)) := by
  have hg0 : ((Nat.gcd x.natAbs y.natAbs : Nat) : Int) ≠ 0 := gcd_ne (by omega)
  have e1 := tdiv_num (n := x) hy.1
  have e2 := tdiv_den (n := x) hy.1
  have r1 := abs_num_le x y ⟨by omega, by omega⟩ hx.1
  have r2 := den_le64 (n := x) hy.1 ⟨by omega, by omega⟩
  rw [← e1] at r1
  rw [← e2] at r2
  unfold tfr frc
  rw [← e1, ← e2]
  have hyn : y = ((y.natAbs : Nat) : Int) := by omega
  by_cases h0 : x < 0
  · have hl := words_loop (I := I) x y x.natAbs y.natAbs
    have ha : ((x.natAbs : Nat) : Int) = -x := by omega
    rw [ha, ← hyn] at hl
    exact sp_run (nt := 28) 1000 [pk (b_lss 2 x 0 true (decide_eq_true h0)), pk (u_neg x ⟨by omega, by omega⟩), pl hl, pk (b_quo 2 x _ hg0 r1), po (i64_sp _ r1.1 r1.2), pk (b_quo 2 y _ hg0 r2), po (i64_sp _ r2.1 r2.2)] (by kernel_rfl)
  · have hl := words_loop (I := I) x y x.natAbs y.natAbs
    have ha : ((x.natAbs : Nat) : Int) = x := by omega
    rw [ha, ← hyn] at hl
    exact sp_run (nt := 28) 1000 [pk (b_lss 2 x 0 false (decide_eq_false h0)), pl hl, pk (b_quo 2 x _ hg0 r1), po (i64_sp _ r1.1 r1.2), pk (b_quo 2 y _ hg0 r2), po (i64_sp _ r2.1 r2.2)] (by kernel_rfl)
variable {q1 q2 : IntP} {n d : Int}
theorem parts_sp (h1 : Num (ip q1) n) (h2 : Num (ip q2) d) (hk1 : Lim 1048576 n) (hk2 : Lim 1048576 d) : Sp Tryz.prog I 39 [fr q1 q2] (.tu [.ag (ip (iy (pn n d))), .ag (ip (iy (pd d)))]) := by
  rcases Int.lt_trichotomy d 0 with hd | hd | hd
  · have e1 : pn n d = -n := by unfold pn; rw [if_neg (by omega), if_pos hd]
    have e2 : pd d = -d := by unfold pd; rw [if_neg (by omega), if_pos hd]
    rw [e1, e2]
    exact res_parts (parts_neg h1 h2 hd) (num_ic hk1.neg (Nat.le_refl _)) (num_ic hk2.neg (Nat.le_refl _))
  · subst hd
    exact res_parts (parts_zero h2) num_lit (num_ic (lim_one (by omega) : Lim 1 1) (by omega))
  · have e1 : pn n d = n := by unfold pn; rw [if_neg (by omega), if_neg (by omega)]
    have e2 : pd d = d := by unfold pd; rw [if_neg (by omega), if_neg (by omega)]
    rw [e1, e2]
    exact res_parts (parts_pos h1 h2 hd) h1 h2
theorem zero_rat {d : Int} : Rat.divInt 0 d = Rat.divInt 0 1 := by rw [Rat.zero_divInt, Rat.zero_divInt]
theorem zero_frac : Sp Tryz.prog I 38 [ci 0, ci 1] (tfr (Rat.divInt 0 1)) := fromWords_sp 0 1 ⟨by omega, by omega⟩ ⟨by omega, by omega⟩
theorem reduce_sp (h1 : Num (ip q1) n) (h2 : Num (ip q2) d) (hk1 : Lim 1048576 n) (hk2 : Lim 1048576 d) (hd : d ≠ 0) : Sp Tryz.prog I 40 [.ag (ip q1), .ag (ip q2)] (tfr (Rat.divInt n d)) := by
  by_cases hn : n = 0
  · subst hn
    rw [zero_rat]
    exact sp_run (nt := 43) 1000 [po (sign_sp 0 h1 rfl), po zero_frac] (by kernel_rfl)
  · have hs : ∃ k, n.sign = k ∧ (k = 1 ∨ k = -1) := by
      rcases Int.lt_trichotomy n 0 with h | h | h
      · exact ⟨-1, Int.sign_eq_neg_one_of_neg h, .inr rfl⟩
      · exact absurd h hn
      · exact ⟨1, Int.sign_eq_one_of_pos h, .inl rfl⟩
    obtain ⟨k, hk, hkv⟩ := hs
    rcases Int.lt_trichotomy d 0 with hdd | hdd | hdd
    · have m1 : Num (ic (-n)) (-n) := num_ic hk1.neg (Nat.le_refl _)
      have m2 : Num (ic (-d)) (-d) := num_ic hk2.neg (Nat.le_refl _)
      have hp : 0 < -d := by omega
      have hg := gcd_ne (n := -n) (d := -d) (by omega)
      have gl : Lim 1048576 ((Nat.gcd (-n).natAbs (-d).natAbs : Nat) : Int) := lim_gcd hk2.neg (by omega)
      have mg : Num (ic ((Nat.gcd (-n).natAbs (-d).natAbs : Nat) : Int)) _ := num_ic gl (Nat.le_refl _)
      rw [← rat_neg n d]
      unfold tfr frc
      rw [rat_num_pos hp, rat_den_pos hp]
      rcases hkv with rfl | rfl
      · exact sp_run (nt := 43) 1000 [po (sign_sp 1 h1 hk), po (sign_sp (-1) h2 (Int.sign_eq_neg_one_of_neg hdd)), po (neg_sp h1), po (neg_sp h2), po (gcd_sp m1 m2), po (dm_sp m1 mg hg), po (dm_sp m2 mg hg)] (by kernel_rfl)
      · exact sp_run (nt := 43) 1000 [po (sign_sp (-1) h1 hk), po (sign_sp (-1) h2 (Int.sign_eq_neg_one_of_neg hdd)), po (neg_sp h1), po (neg_sp h2), po (gcd_sp m1 m2), po (dm_sp m1 mg hg), po (dm_sp m2 mg hg)] (by kernel_rfl)
    · exact absurd hdd hd
    · have hg := gcd_ne (n := n) (d := d) (by omega)
      have gl : Lim 1048576 ((Nat.gcd n.natAbs d.natAbs : Nat) : Int) := lim_gcd hk2 (by omega)
      have mg : Num (ic ((Nat.gcd n.natAbs d.natAbs : Nat) : Int)) _ := num_ic gl (Nat.le_refl _)
      unfold tfr frc
      rw [rat_num_pos hdd, rat_den_pos hdd]
      rcases hkv with rfl | rfl
      · exact sp_run (nt := 43) 1000 [po (sign_sp 1 h1 hk), po (sign_sp 1 h2 (Int.sign_eq_one_of_pos hdd)), po (gcd_sp h1 h2), po (dm_sp h1 mg hg), po (dm_sp h2 mg hg)] (by kernel_rfl)
      · exact sp_run (nt := 43) 1000 [po (sign_sp (-1) h1 hk), po (sign_sp 1 h2 (Int.sign_eq_one_of_pos hdd)), po (gcd_sp h1 h2), po (dm_sp h1 mg hg), po (dm_sp h2 mg hg)] (by kernel_rfl)
end
end Go.Proofs.YtociocengfjioaaGreatDoor

/- Fractions: arithmetic of the program. -/
namespace Go.Proofs.YtociocengfjioaaGreatDoor
open Go Go.RowKit
set_option linter.unusedVariables false

theorem mul31 {a b : Int} (ha : S31 a) (hb : S31 b) : -4611686018427387904 < a * b ∧ a * b < 4611686018427387904 := by
  have h1 : a.natAbs < 2147483648 := by omega
  have h2 : b.natAbs < 2147483648 := by omega
  have h3 : (a * b).natAbs < 2147483648 * 2147483648 := by
    rw [Int.natAbs_mul]
    exact Nat.mul_lt_mul_of_lt_of_le h1 (Nat.le_of_lt h2) (by omega)
  omega
theorem pn31 {n : Int} (h : S31 n) (d : Int) : S31 (pn n d) := by
  unfold pn
  split
  · exact ⟨by omega, by omega⟩
  · split <;> exact ⟨by omega, by omega⟩
theorem pd31 {d : Int} (h : S31 d) : S31 (pd d) := by
  unfold pd
  split
  · exact ⟨by omega, by omega⟩
  · split <;> exact ⟨by omega, by omega⟩
theorem pn_lim {k : Nat} {n : Int} (h : Lim k n) (d : Int) : Lim k (pn n d) := by
  unfold pn
  split
  · exact lim_zero k
  · split
    · exact h.neg
    · exact h
theorem pd_lim {k : Nat} {d : Int} (h : Lim k d) (hk : 0 < k) : Lim k (pd d) := by
  unfold pd
  split
  · exact lim_one hk
  · split
    · exact h.neg
    · exact h
theorem pd_ne (d : Int) : pd d ≠ 0 := by have := pd_pos d; omega
theorem rat_add {a b c d : Int} (hb : b ≠ 0) (hd : d ≠ 0) : Rat.divInt (a * d + c * b) (b * d) = Rat.divInt a b + Rat.divInt c d := (Rat.divInt_add_divInt a c hb hd).symm
theorem rat_sub {a b c d : Int} (hb : b ≠ 0) (hd : d ≠ 0) : Rat.divInt (a * d - c * b) (b * d) = Rat.divInt a b - Rat.divInt c d := (Rat.divInt_sub_divInt a c hb hd).symm
theorem rat_mul (a b c d : Int) : Rat.divInt (a * c) (b * d) = Rat.divInt a b * Rat.divInt c d := (Rat.divInt_mul_divInt a c).symm
theorem rat_div (a b c d : Int) : Rat.divInt (a * d) (b * c) = Rat.divInt a b / Rat.divInt c d := by
  rw [Rat.div_def, Rat.inv_divInt, Rat.divInt_mul_divInt]
theorem rat_add1 {a c b : Int} (hb : b ≠ 0) : Rat.divInt (a + c) b = Rat.divInt a b + Rat.divInt c b := by
  rw [Rat.divInt_add_divInt a c hb hb, ← Int.add_mul, Rat.divInt_mul_right hb]
theorem rat_sub1 {a c b : Int} (hb : b ≠ 0) : Rat.divInt (a - c) b = Rat.divInt a b - Rat.divInt c b := by
  rw [Rat.divInt_sub_divInt a c hb hb, ← Int.sub_mul, Rat.divInt_mul_right hb]
/-- the order of two fractions -/
def cmpq (a b : Rat) : Int := if a < b then -1 else if a = b then 0 else 1
theorem rat_pos {d : Int} (h : 0 < d) : (0 : Rat) < (d : Rat) := Rat.intCast_pos.2 h
theorem cmpz_rat {a b c d : Int} (hb : 0 < b) (hd : 0 < d) : cmpz (a * d) (c * b) = cmpq (Rat.divInt a b) (Rat.divInt c d) := by
  have hb' := rat_pos hb
  have hd' := rat_pos hd
  have e1 : Rat.divInt a b * (b : Rat) = (a : Rat) := by rw [Rat.divInt_eq_div, Rat.div_mul_cancel (Rat.ne_of_gt hb')]
  have e2 : Rat.divInt c d * (d : Rat) = (c : Rat) := by rw [Rat.divInt_eq_div, Rat.div_mul_cancel (Rat.ne_of_gt hd')]
  have hp := Rat.mul_pos hb' hd'
  have k1 : ((a * d : Int) : Rat) = Rat.divInt a b * ((b : Rat) * (d : Rat)) := by
    rw [Rat.intCast_mul, ← e1]; grind
  have k2 : ((c * b : Int) : Rat) = Rat.divInt c d * ((b : Rat) * (d : Rat)) := by
    rw [Rat.intCast_mul, ← e2]; grind
  have l1 : a * d < c * b ↔ Rat.divInt a b < Rat.divInt c d := by
    rw [← Rat.intCast_lt_intCast, k1, k2, Rat.mul_lt_mul_right hp]
  have l2 : a * d = c * b ↔ Rat.divInt a b = Rat.divInt c d := by
    rw [← Rat.intCast_inj, k1, k2]
    constructor
    · intro h
      have := congrArg (· / ((b : Rat) * (d : Rat))) h
      simp only [Rat.mul_div_cancel (Rat.ne_of_gt hp)] at this
      exact this
    · intro h; rw [h]
  unfold cmpz cmpq
  by_cases h1 : a * d < c * b
  · rw [if_pos h1, if_pos (l1.1 h1)]
  · rw [if_neg h1, if_neg (fun h => h1 (l1.2 h))]
    by_cases h2 : a * d = c * b
    · rw [if_pos h2, if_pos (l2.1 h2)]
    · rw [if_neg h2, if_neg (fun h => h2 (l2.2 h))]
/-- a fraction that may be reckoned with: at most k digits -/
structure Fk (q1 q2 : IntP) (n d : Int) (k : Nat) : Prop where
  a : Num (ip q1) n
  b : Num (ip q2) d
  ln : Lim k n
  ld : Lim k d
  k0 : 0 < k
  k1 : k ≤ 262144
theorem Fk.big {q1 q2 : IntP} {n d : Int} {k : Nat} (h : Fk q1 q2 n d k) : Lim 1048576 n ∧ Lim 1048576 d := ⟨h.ln.mono (by have := h.k1; omega), h.ld.mono (by have := h.k1; omega)⟩
theorem fk_rat {q : Rat} {k : Nat} (h1 : Lim k q.num) (h2 : Lim k (q.den : Int)) (k0 : 0 < k) (k1 : k ≤ 262144) : Fk (cP q.num) (cP (q.den : Int)) q.num q.den k := ⟨num_ic h1 (by omega), num_ic h2 (by omega), h1, h2, k0, k1⟩
theorem fk_div {n d : Int} {k : Nat} (h1 : Lim k n) (h2 : Lim k d) (k0 : 0 < k) (k1 : k ≤ 262144) : Fk (cP (Rat.divInt n d).num) (cP ((Rat.divInt n d).den : Int)) (Rat.divInt n d).num (Rat.divInt n d).den k := fk_rat (lim_num h1) (lim_den h2 k0) k0 k1
section
variable {I : WInv} {q1 q2 q3 q4 : IntP} {n d n' d' : Int} {k k' : Nat}
theorem ny {z : Int} {j : Nat} (h : Lim j z) (hj : j ≤ 1048576) : Num (ic z) z := num_ic h hj
theorem addq_sp (h1 : Fk q1 q2 n d k) (h2 : Fk q3 q4 n' d' k') (hk : k + k' ≤ 262144) : Sp Tryz.prog I 20 [fr q1 q2, fr q3 q4] (tfr (Rat.divInt n d + Rat.divInt n' d')) := by
  have y1 := pd_pos d
  have y2 := pd_pos d'
  have l1 := pn_lim h1.ln d
  have l2 := pd_lim h1.ld h1.k0
  have l3 := pn_lim h2.ln d'
  have l4 := pd_lim h2.ld h2.k0
  have e := rat_add (a := pn n d) (c := pn n' d') (pd_ne d) (pd_ne d')
  rw [pn_pd, pn_pd] at e
  refine two_fracs h1.a h1.b h2.a h2.b ?_ ?_
  · intro s1 s2 s3 s4
    have b1 := mul31 (pn31 s1 d) (pd31 s4)
    have b2 := mul31 (pn31 s3 d') (pd31 s2)
    have b3 := mul31 (pd31 s2) (pd31 s4)
    have p3 := Int.mul_pos y1 y2
    rw [← e]
    exact sp_run (nt := 67) 1000 [po (small_yes s1 s2 s3 s4), pk (b_mul 2 (pn n d) (pd d') ⟨by omega, by omega⟩), pk (b_mul 2 (pn n' d') (pd d) ⟨by omega, by omega⟩), pk (b_add 2 (pn n d * pd d') (pn n' d' * pd d) ⟨by omega, by omega⟩), pk (b_mul 2 (pd d) (pd d') ⟨by omega, by omega⟩), po (fromWords_sp (pn n d * pd d' + pn n' d' * pd d) (pd d * pd d') ⟨by omega, by omega⟩ ⟨p3, by omega⟩)] (by kernel_rfl)
  · intro p1 p2 p3 p4 m1 m2 m3 m4 hno
    have a1 := parts_sp (I := I) m1 m2 h1.big.1 h1.big.2
    have a2 := parts_sp (I := I) m3 m4 h2.big.1 h2.big.2
    by_cases he : pd d = pd d'
    · have hl : Lim (k + k' + 1) (pn n d + pn n' d') := (l1.mono (by omega)).add (l3.mono (by omega))
      have e2 := rat_add1 (a := pn n d) (c := pn n' d') (pd_ne d)
      rw [pn_pd, he, pn_pd] at e2
      rw [← e2, ← he]
      exact sp_run (nt := 67) 1000 [po hno, po a1, po a2, po (cmp_sp 0 (num_iy (pd d)) (num_iy (pd d')) (cmpz_eq he)), po (add_sp (num_iy (pn n d)) (num_iy (pn n' d'))), po (reduce_sp (ny hl (by omega)) (num_iy (pd d)) (hl.mono (by omega)) (l2.mono (by have := h1.k1; omega)) (pd_ne d))] (by kernel_rfl)
    · have hl1 := l1.mul l4
      have hl2 := l3.mul l2
      have hl3 := l2.mul l4
      have hl : Lim (k + k' + 1) (pn n d * pd d' + pn n' d' * pd d) := hl1.add (hl2.mono (by omega))
      rw [← e]
      have go : ∀ c, cmpz (pd d) (pd d') = c → (c = 1 ∨ c = -1) → Sp Tryz.prog I 20 [fr p1 p2, fr p3 p4] (tfr (Rat.divInt (pn n d * pd d' + pn n' d' * pd d) (pd d * pd d'))) := by
        rintro c hc (rfl | rfl)
        · exact sp_run (nt := 67) 1000 [po hno, po a1, po a2, po (cmp_sp 1 (num_iy (pd d)) (num_iy (pd d')) hc), po (mul_sp (num_iy (pn n d)) (num_iy (pd d'))), po (mul_sp (num_iy (pn n' d')) (num_iy (pd d))), po (add_sp (ny hl1 (by omega)) (ny hl2 (by omega))), po (mul_sp (num_iy (pd d)) (num_iy (pd d'))), po (reduce_sp (ny hl (by omega)) (ny hl3 (by omega)) (hl.mono (by omega)) (hl3.mono (by omega)) (by have := Int.mul_pos y1 y2; omega))] (by kernel_rfl)
        · exact sp_run (nt := 67) 1000 [po hno, po a1, po a2, po (cmp_sp (-1) (num_iy (pd d)) (num_iy (pd d')) hc), po (mul_sp (num_iy (pn n d)) (num_iy (pd d'))), po (mul_sp (num_iy (pn n' d')) (num_iy (pd d))), po (add_sp (ny hl1 (by omega)) (ny hl2 (by omega))), po (mul_sp (num_iy (pd d)) (num_iy (pd d'))), po (reduce_sp (ny hl (by omega)) (ny hl3 (by omega)) (hl.mono (by omega)) (hl3.mono (by omega)) (by have := Int.mul_pos y1 y2; omega))] (by kernel_rfl)
      rcases Int.lt_trichotomy (pd d) (pd d') with h | h | h
      · exact go _ (cmpz_lt h) (.inr rfl)
      · exact absurd h he
      · exact go _ (cmpz_gt h) (.inl rfl)
theorem subq_sp (h1 : Fk q1 q2 n d k) (h2 : Fk q3 q4 n' d' k') (hk : k + k' ≤ 262144) : Sp Tryz.prog I 22 [fr q1 q2, fr q3 q4] (tfr (Rat.divInt n d - Rat.divInt n' d')) := by
  have y1 := pd_pos d
  have y2 := pd_pos d'
  have l1 := pn_lim h1.ln d
  have l2 := pd_lim h1.ld h1.k0
  have l3 := pn_lim h2.ln d'
  have l4 := pd_lim h2.ld h2.k0
  have e := rat_sub (a := pn n d) (c := pn n' d') (pd_ne d) (pd_ne d')
  rw [pn_pd, pn_pd] at e
  refine two_fracs h1.a h1.b h2.a h2.b ?_ ?_
  · intro s1 s2 s3 s4
    have b1 := mul31 (pn31 s1 d) (pd31 s4)
    have b2 := mul31 (pn31 s3 d') (pd31 s2)
    have b3 := mul31 (pd31 s2) (pd31 s4)
    have p3 := Int.mul_pos y1 y2
    rw [← e]
    exact sp_run (nt := 67) 1000 [po (small_yes s1 s2 s3 s4), pk (b_mul 2 (pn n d) (pd d') ⟨by omega, by omega⟩), pk (b_mul 2 (pn n' d') (pd d) ⟨by omega, by omega⟩), pk (b_sub 2 (pn n d * pd d') (pn n' d' * pd d) ⟨by omega, by omega⟩), pk (b_mul 2 (pd d) (pd d') ⟨by omega, by omega⟩), po (fromWords_sp (pn n d * pd d' - pn n' d' * pd d) (pd d * pd d') ⟨by omega, by omega⟩ ⟨p3, by omega⟩)] (by kernel_rfl)
  · intro p1 p2 p3 p4 m1 m2 m3 m4 hno
    have a1 := parts_sp (I := I) m1 m2 h1.big.1 h1.big.2
    have a2 := parts_sp (I := I) m3 m4 h2.big.1 h2.big.2
    by_cases he : pd d = pd d'
    · have hl : Lim (k + k' + 1) (pn n d - pn n' d') := (l1.mono (by omega)).sub (l3.mono (by omega))
      have e2 := rat_sub1 (a := pn n d) (c := pn n' d') (pd_ne d)
      rw [pn_pd, he, pn_pd] at e2
      rw [← e2, ← he]
      exact sp_run (nt := 67) 1000 [po hno, po a1, po a2, po (cmp_sp 0 (num_iy (pd d)) (num_iy (pd d')) (cmpz_eq he)), po (sub_sp (num_iy (pn n d)) (num_iy (pn n' d'))), po (reduce_sp (ny hl (by omega)) (num_iy (pd d)) (hl.mono (by omega)) (l2.mono (by have := h1.k1; omega)) (pd_ne d))] (by kernel_rfl)
    · have hl1 := l1.mul l4
      have hl2 := l3.mul l2
      have hl3 := l2.mul l4
      have hl : Lim (k + k' + 1) (pn n d * pd d' - pn n' d' * pd d) := hl1.sub (hl2.mono (by omega))
      rw [← e]
      have go : ∀ c, cmpz (pd d) (pd d') = c → (c = 1 ∨ c = -1) → Sp Tryz.prog I 22 [fr p1 p2, fr p3 p4] (tfr (Rat.divInt (pn n d * pd d' - pn n' d' * pd d) (pd d * pd d'))) := by
        rintro c hc (rfl | rfl)
        · exact sp_run (nt := 67) 1000 [po hno, po a1, po a2, po (cmp_sp 1 (num_iy (pd d)) (num_iy (pd d')) hc), po (mul_sp (num_iy (pn n d)) (num_iy (pd d'))), po (mul_sp (num_iy (pn n' d')) (num_iy (pd d))), po (sub_sp (ny hl1 (by omega)) (ny hl2 (by omega))), po (mul_sp (num_iy (pd d)) (num_iy (pd d'))), po (reduce_sp (ny hl (by omega)) (ny hl3 (by omega)) (hl.mono (by omega)) (hl3.mono (by omega)) (by have := Int.mul_pos y1 y2; omega))] (by kernel_rfl)
        · exact sp_run (nt := 67) 1000 [po hno, po a1, po a2, po (cmp_sp (-1) (num_iy (pd d)) (num_iy (pd d')) hc), po (mul_sp (num_iy (pn n d)) (num_iy (pd d'))), po (mul_sp (num_iy (pn n' d')) (num_iy (pd d))), po (sub_sp (ny hl1 (by omega)) (ny hl2 (by omega))), po (mul_sp (num_iy (pd d)) (num_iy (pd d'))), po (reduce_sp (ny hl (by omega)) (ny hl3 (by omega)) (hl.mono (by omega)) (hl3.mono (by omega)) (by have := Int.mul_pos y1 y2; omega))] (by kernel_rfl)
      rcases Int.lt_trichotomy (pd d) (pd d') with h | h | h
      · exact go _ (cmpz_lt h) (.inr rfl)
      · exact absurd h he
      · exact go _ (cmpz_gt h) (.inl rfl)
theorem mulq_sp (h1 : Fk q1 q2 n d k) (h2 : Fk q3 q4 n' d' k') (hk : k + k' ≤ 262144) : Sp Tryz.prog I 24 [fr q1 q2, fr q3 q4] (tfr (Rat.divInt n d * Rat.divInt n' d')) := by
  have y1 := pd_pos d
  have y2 := pd_pos d'
  have hl := (pn_lim h1.ln d).mul (pn_lim h2.ln d')
  have hl3 := (pd_lim h1.ld h1.k0).mul (pd_lim h2.ld h2.k0)
  have e := rat_mul (pn n d) (pd d) (pn n' d') (pd d')
  rw [pn_pd, pn_pd] at e
  refine two_fracs h1.a h1.b h2.a h2.b ?_ ?_
  · intro s1 s2 s3 s4
    have b1 := mul31 (pn31 s1 d) (pn31 s3 d')
    have b3 := mul31 (pd31 s2) (pd31 s4)
    have p3 := Int.mul_pos y1 y2
    rw [← e]
    exact sp_run (nt := 48) 1000 [po (small_yes s1 s2 s3 s4), pk (b_mul 2 (pn n d) (pn n' d') ⟨by omega, by omega⟩), pk (b_mul 2 (pd d) (pd d') ⟨by omega, by omega⟩), po (fromWords_sp (pn n d * pn n' d') (pd d * pd d') ⟨by omega, by omega⟩ ⟨p3, by omega⟩)] (by kernel_rfl)
  · intro p1 p2 p3 p4 m1 m2 m3 m4 hno
    have a1 := parts_sp (I := I) m1 m2 h1.big.1 h1.big.2
    have a2 := parts_sp (I := I) m3 m4 h2.big.1 h2.big.2
    rw [← e]
    exact sp_run (nt := 48) 1000 [po hno, po a1, po a2, po (mul_sp (num_iy (pn n d)) (num_iy (pn n' d'))), po (mul_sp (num_iy (pd d)) (num_iy (pd d'))), po (reduce_sp (ny hl (by omega)) (ny hl3 (by omega)) (hl.mono (by omega)) (hl3.mono (by omega)) (by have := Int.mul_pos y1 y2; omega))] (by kernel_rfl)
theorem cmpq_sp (c : Int) (h1 : Fk q1 q2 n d k) (h2 : Fk q3 q4 n' d' k') (hk : k + k' ≤ 262144) (hc : cmpq (Rat.divInt n d) (Rat.divInt n' d') = c) : Sp Tryz.prog I 11 [fr q1 q2, fr q3 q4] (li c) := by
  have y1 := pd_pos d
  have y2 := pd_pos d'
  have hl1 := (pn_lim h1.ln d).mul (pd_lim h2.ld h2.k0)
  have hl2 := (pn_lim h2.ln d').mul (pd_lim h1.ld h1.k0)
  have e := cmpz_rat (a := pn n d) (c := pn n' d') y1 y2
  rw [pn_pd, pn_pd, hc] at e
  refine two_fracs h1.a h1.b h2.a h2.b ?_ ?_
  · intro s1 s2 s3 s4
    have b1 := mul31 (pn31 s1 d) (pd31 s4)
    have b2 := mul31 (pn31 s3 d') (pd31 s2)
    rcases Int.lt_trichotomy (pn n d * pd d') (pn n' d' * pd d) with h | h | h
    · rw [cmpz_lt h] at e
      subst e
      exact sp_run (nt := 57) 1000 [po (small_yes s1 s2 s3 s4), pk (b_mul 2 (pn n d) (pd d') ⟨by omega, by omega⟩), pk (b_mul 2 (pn n' d') (pd d) ⟨by omega, by omega⟩), pk (b_lss 2 (pn n d * pd d') (pn n' d' * pd d) true (decide_eq_true h))] (by kernel_rfl)
    · rw [cmpz_eq h] at e
      subst e
      exact sp_run (nt := 57) 1000 [po (small_yes s1 s2 s3 s4), pk (b_mul 2 (pn n d) (pd d') ⟨by omega, by omega⟩), pk (b_mul 2 (pn n' d') (pd d) ⟨by omega, by omega⟩), pk (b_lss 2 (pn n d * pd d') (pn n' d' * pd d) false (decide_eq_false (by omega))), pk (b_gtr 2 (pn n d * pd d') (pn n' d' * pd d) false (decide_eq_false (by omega)))] (by kernel_rfl)
    · rw [cmpz_gt h] at e
      subst e
      exact sp_run (nt := 57) 1000 [po (small_yes s1 s2 s3 s4), pk (b_mul 2 (pn n d) (pd d') ⟨by omega, by omega⟩), pk (b_mul 2 (pn n' d') (pd d) ⟨by omega, by omega⟩), pk (b_lss 2 (pn n d * pd d') (pn n' d' * pd d) false (decide_eq_false (by omega))), pk (b_gtr 2 (pn n d * pd d') (pn n' d' * pd d) true (decide_eq_true h))] (by kernel_rfl)
  · intro p1 p2 p3 p4 m1 m2 m3 m4 hno
    have a1 := parts_sp (I := I) m1 m2 h1.big.1 h1.big.2
    have a2 := parts_sp (I := I) m3 m4 h2.big.1 h2.big.2
    exact sp_run (nt := 57) 1000 [po hno, po a1, po a2, po (mul_sp (num_iy (pn n d)) (num_iy (pd d'))), po (mul_sp (num_iy (pn n' d')) (num_iy (pd d))), po (cmp_sp c (ny hl1 (by omega)) (ny hl2 (by omega)) e)] (by kernel_rfl)
theorem sgn_mul (n d : Int) : R64 (n.sign * d.sign) := by
  rcases Int.lt_trichotomy n 0 with h | h | h <;> rcases Int.lt_trichotomy d 0 with h' | h' | h' <;>
    simp [h, h', Int.sign_eq_one_of_pos, Int.sign_eq_neg_one_of_neg] <;> exact ⟨by omega, by omega⟩
theorem sign_rat (n d : Int) : n.sign * d.sign = (Rat.divInt n d).num.sign := by
  rw [Rat.num_divInt]
  by_cases hd : d = 0
  · subst hd; simp
  · have hg : ((d.gcd n : Nat) : Int) ∣ d.sign * n := Int.dvd_trans (Int.gcd_dvd_right ..) (Int.dvd_mul_left _ _)
    have hp : 0 < ((d.gcd n : Nat) : Int) := by
      have : 0 < d.gcd n := Int.gcd_pos_of_ne_zero_left n hd
      omega
    obtain ⟨c, hc⟩ := hg
    have h1 : (d.sign * n).sign = n.sign * d.sign := by
      rw [Int.sign_mul, Int.sign_sign, Int.mul_comm]
    rw [hc, Int.mul_ediv_cancel_left _ (by omega), ← h1, hc, Int.sign_mul, Int.sign_eq_one_of_pos hp, Int.one_mul]
theorem signq_sp (c : Int) (h1 : Fk q1 q2 n d k) (hc : (Rat.divInt n d).num.sign = c) : Sp Tryz.prog I 13 [fr q1 q2] (li c) := by
  subst hc
  rw [← sign_rat]
  exact sp_run (nt := 10) 1000 [po (sign_sp n.sign h1.a rfl), po (sign_sp d.sign h1.b rfl), pk (b_mul 3 n.sign d.sign (sgn_mul n d))] (by kernel_rfl)
end
end Go.Proofs.YtociocengfjioaaGreatDoor

/- Slices that stay, and changes of state. -/
namespace Go.Proofs.YtociocengfjioaaGreatDoor
open Go Go.RowKit
set_option linter.unusedVariables false
set_option linter.unusedSimpArgs false

/-- a slice that stays: its elements, row by row -/
def slI (sz : Nat) (rows : List (List It0)) : Item where
  n := 1
  T := fun N w l => ∃ A c, l = [.slice A rows.length c] ∧ rows.length ≤ c ∧ c ≤ maxLen ∧ (rows ≠ [] → ∃ b off, A = some ⟨b, off, none⟩ ∧ ∀ i r, rows[i]? = some r → RowAt N w b (off + i * sz) r)
  step := fun hw hN ⟨A, c, e, h1, h2, h3⟩ => ⟨A, c, e, h1, h2, fun hr => let ⟨b, off, hA, h⟩ := h3 hr; ⟨b, off, hA, fun i r hi => (h i r hi).step hw hN⟩⟩
  len := fun ⟨A, c, e, _⟩ => by rw [e]; rfl
  one := fun ⟨A, c, e, _⟩ => by rw [e]; intro v hv; simp at hv; subst hv; rfl
def widthO (l : List It0) : Nat := (l.map It0.n).sum
theorem widthO_map (l : List It0) : widthL (l.map It.b) = widthO l := by simp only [widthL, widthO, List.map_map]; rfl
theorem semL0_split {N : Nat → Prop} {w : World} : ∀ {xs ys : List It0} {l : List Value}, semL0 N w (xs ++ ys) l → ∃ l1 l2, l = l1 ++ l2 ∧ semL0 N w xs l1 ∧ semL0 N w ys l2
  | [], _, l, h => ⟨[], l, rfl, rfl, h⟩
  | x :: xs, _, l, ⟨a, b, e, h1, h2⟩ => by
    obtain ⟨c, d, e2, h3, h4⟩ := semL0_split h2
    exact ⟨a ++ c, d, by rw [e, e2, List.append_assoc], ⟨a, c, rfl, h1, h3⟩, h4⟩
theorem semL0_len {N : Nat → Prop} {w : World} {xs : List It0} {l : List Value} (h : semL0 N w xs l) : l.length = widthO xs := by
  have := semL_len (g := G0) (semL0_semL h)
  rw [this, widthO_map]
theorem rows_at {N : Nat → Prop} {w : World} {sz : Nat} : ∀ {rows : List (List It0)} {vs : List Value}, (∀ r ∈ rows, widthO r = sz) → semL0 N w rows.flatten vs → vs.length = rows.length * sz ∧ ∀ i r, rows[i]? = some r → semL0 N w r ((vs.drop (i * sz)).take sz)
  | [], vs, _, h => by rw [show vs = [] from h]; exact ⟨by simp, fun i r hi => by simp at hi⟩
  | q :: rows, vs, hw, h => by
    obtain ⟨l1, l2, e, h1, h2⟩ := semL0_split (xs := q) (ys := rows.flatten) h
    have hl := semL0_len h1
    rw [hw q (by simp)] at hl
    obtain ⟨k1, k2⟩ := rows_at (fun r hr => hw r (by simp [hr])) h2
    refine ⟨by rw [e, List.length_append, hl, k1, List.length_cons, Nat.add_mul]; omega, fun i r hi => ?_⟩
    cases i with
    | zero =>
      simp at hi
      subst hi
      rw [e, Nat.zero_mul, List.drop_zero, List.take_append_of_le_length (by omega), List.take_of_length_le (by omega)]
      exact h1
    | succ i =>
      simp at hi
      have := k2 i r hi
      have e2 : (vs.drop ((i + 1) * sz)) = l2.drop (i * sz) := by
        rw [e, Nat.add_mul, Nat.one_mul, Nat.add_comm, ← List.drop_drop, ← hl, List.drop_left]
      rw [e2]
      exact this
section
variable {P : Program} {I : WInv}
theorem sl_len (t e ty : TypeId) (sz : Nat) (rows : List (List It0)) (ht : P.underlying t = some (.slice e)) : OpOb P (.len #[t] ty) [tit (slI sz rows)] (li rows.length) := by
  intro N w g vs hv
  obtain ⟨v, rfl, A, c, e1, h⟩ := all2T_one hv
  injection e1 with e1
  subst e1
  exact ⟨_, w, by simp [OpK.run, Builtin.len_, underlying_run ht, goInt], Below.refl _ _, (rfl : [_] = [_])⟩
theorem sl_idx (t e : TypeId) (sz : Nat) (rows : List (List It0)) (i : Nat) (z : Int) (r : List It0) (ht : P.underlying t = some (.slice e)) (hs : sizeB P e = some sz) (hz : z = (i : Int)) (hr : rows[i]? = some r) : OpOb P (.idxA t) [tit (slI sz rows), li z] (.cv (.one (.fp r))) := by
  intro N w g vs hv
  obtain ⟨v, x, rfl, ⟨A, c, e1, hc1, hc2, h⟩, h2⟩ := all2T_two hv
  injection e1 with e1
  subst e1 hz
  have h2 : [x] = [.int .i64 (i : Int)] := h2
  injection h2 with h2
  subst h2
  have hlt : i < rows.length := (List.getElem?_eq_some_iff.1 hr).1
  obtain ⟨b, off, hA, hrow⟩ := h (by intro h0; rw [h0] at hlt; simp at hlt)
  subst hA
  refine ⟨.pointer (some ⟨b, off + i * sz, none⟩), w, ?_, Below.refl _ _, ⟨b, off + i * sz, rfl, (hrow i r hr).step (WStep.refl _ _) (fun _ h => .inl h)⟩⟩
  simp [OpK.run, Instr.indexAt, asIntOf, underlying_run ht, sizeB_run hs, addr_add, hlt]
theorem sl_ix (t e : TypeId) (sz : Nat) (rows : List (List It0)) (i : Nat) (z : Int) (r : List It0) (hr : rows[i]? = some r) (hz : z = (i : Int) := by omega) (ht : P.underlying t = some (.slice e) := by kernel_rfl) (hs : sizeB P e = some sz := by kernel_rfl) : OpOb P (.idxA t) [tit (slI sz rows), li z] (.cv (.one (.fp r))) := sl_idx t e sz rows i z r ht hs hz hr
/-- a slice that is written out -/
theorem bs_ob {t e : TypeId} {len size bytes : Nat} {ix : List Nat} {z : List Value} {cts : List CT} {m : List It} {rows : List (List It0)} (he : elemT P t = some (e, size, bytes, z)) (hle : len * size ≤ 16777216) (hf : fillT (fun i => some (i * size, size)) (rep len (litsOf z)) (ix.zip cts) = some m) (hm : m = rows.flatten.map It.b) (hn : rows.length = len) (hw : ∀ r ∈ rows, widthO r = size) :
    OpOb P (.bs t len ix) (cts.map .cv) (tit (slI size rows)) := by
  intro N w g vs hv
  obtain ⟨i, zv, q1, q2, q3, q4, q5, q6, q7, q8, q9⟩ := elemT_ok he
  subst q4 q6
  have hps : ∀ (ix : List Nat) (cts : List CT) (vs : List Value), all2T (TV.sem N w g) (cts.map .cv) vs → allP (CT.sem N w g) (ix.zip cts) (ix.zip vs) := by
    intro ix
    induction ix with
    | nil => intro cts vs _; exact (rfl : [] = [])
    | cons j ix ih =>
      intro cts vs h
      cases cts with
      | nil => have : vs = [] := h; subst this; exact (rfl : [] = [])
      | cons c cts =>
        obtain ⟨v, l, rfl, h1, h2⟩ := h
        exact ⟨v, ix.zip l, rfl, h1, ih cts l h2⟩
  have hmade : (madeCells zv.cells (len * i.size)).toList = (List.replicate len zv.cells.toList).flatten := by rw [← q7]; exact madeCells_toList _ (by omega) len
  obtain ⟨cs', r1, r2, r3, r4⟩ := fillT_ok (ix.zip cts) _ m (ix.zip vs) (madeCells zv.cells (len * i.size)) hf (by rw [hmade]; exact semL_rep len) (hps ix cts vs hv) (by rw [hmade]; exact mem_rep q9 len)
  have hrun := run_buildSlice (P := P) (w := w) (ps := (ix.zip vs).toArray) q1 q2 q3 q7 hle (by simpa using r1)
  have hb : Below w.heap.size w (w.alloc (.cells cs' e)) := (Below.refl _ _).alloc (Nat.le_refl _) _
  refine ⟨_, _, hrun, hb, ⟨some ⟨w.heap.size, 0, none⟩, len, by rw [hn], by omega, ?_, fun _ => ⟨w.heap.size, 0, rfl, fun j r hj => ?_⟩⟩⟩
  · have : len * 1 ≤ len * i.size := Nat.mul_le_mul_left _ q8
    simp only [maxLen]; omega
  · rw [hm] at r2
    have hs0 := semL_semL0 r2
    obtain ⟨k1, k2⟩ := rows_at hw hs0
    have k3 := k2 j r hj
    have hlen := semL0_len k3
    rw [hw r (List.mem_of_getElem? hj)] at hlen
    refine ⟨cs', e, (0, 0), _, .inr ⟨Nat.le_refl _, by simp⟩, alloc_at _ _, ?_, semL0_step (WStep.of_below hb) (fun _ h => .inl h) k3⟩
    rw [Nat.zero_add, hlen]
variable {nt : Nat}
theorem look_cons {t : Nat} {v : TV} {E : Env} {s : Nat} : look ((t, v) :: E) s = if t = s then some v else look E s := by
  simp only [look]
  by_cases h : t = s
  · subst h; simp
  · have : Nat.beq t s = false := by cases hb : Nat.beq t s with
      | false => rfl
      | true => exact absurd (Nat.eq_of_beq_eq_true hb) h
    simp [h, this]
theorem lookB_cons {t : Nat} {v : Option Ent} {B : Bxs} {s : Nat} : lookB ((t, v) :: B) s = if t = s then v else lookB B s := by
  simp only [lookB]
  by_cases h : t = s
  · subst h; simp
  · have : Nat.beq t s = false := by cases hb : Nat.beq t s with
      | false => rfl
      | true => exact absurd (Nat.eq_of_beq_eq_true hb) h
    simp [h, this]
/-- nil becomes an empty slice of one's own -/
theorem nil_leads {t : Nat} {E : Env} {B : Bxs} {nx : Nat} (T : TypeId) (s : Nat) : Leads I nt ⟨(t, tlit (.slice none 0 0)) :: E, B, nx⟩ ⟨(t, .cv (.one (.sl nx))) :: E, (nx, some ⟨T, some (s, 0), []⟩) :: B, nx + 1⟩ := by
  rintro N0 w0 a w ⟨N, g, h1, h2⟩
  have hfr : g nx = none := h2 nx (Nat.le_refl _)
  have hx := upg_ext (v := .sl none 0 0) hfr
  refine ⟨N, upg g nx (.sl none 0 0), { h1 with slots := ?_, boxes := ?_, inj := ?_, rig := fun k v hv => hx k v (h1.rig k v hv) }, ?_⟩
  · intro q v hv
    rw [look_cons] at hv
    by_cases hq : t = q
    · subst hq
      rw [if_pos rfl] at hv
      injection hv with hv
      subst hv
      have := h1.slots t _ (by rw [look_cons, if_pos rfl])
      have this : [a.tmps.getD t undef] = [.slice none 0 0] := this
      injection this with this
      exact ⟨none, 0, 0, upg_same, by rw [this]⟩
    · rw [if_neg hq] at hv
      exact TV.step (h1.slots q v (by rw [look_cons, if_neg hq]; exact hv)) (WStep.refl _ _) (fun _ h => h) hx
  · intro k e he
    rw [lookB_cons] at he
    by_cases hk : nx = k
    · subst hk
      rw [if_pos rfl] at he
      injection he with he
      subst he
      exact ⟨_, upg_same, .inl ⟨s, 0, rfl, rfl, rfl, rfl⟩⟩
    · rw [if_neg hk] at he
      exact (h1.boxes k e he).keep (WStep.refl _ _) (fun _ h => h) (fun b hb => (h1.boxes k e he).notN hb) (fun b hb => rfl) hx
  · intro k j e e' b q1 q2 q3 q4
    rw [lookB_cons] at q1 q2
    by_cases hk : nx = k
    · subst hk
      rw [upg_blk] at q3
      cases q3
    · by_cases hj : nx = j
      · subst hj
        rw [upg_blk] at q4
        cases q4
      · rw [if_neg hk] at q1
        rw [if_neg hj] at q2
        unfold blkOf at q3 q4
        rw [upg_other (Ne.symm hk)] at q3
        rw [upg_other (Ne.symm hj)] at q4
        exact h1.inj k j e e' b q1 q2 q3 q4
  · intro k hk
    change nx + 1 ≤ k at hk
    show upg g nx _ k = none
    rw [upg_other (by omega : k ≠ nx)]
    exact h2 k (show nx ≤ k by omega)
/-- a slice of one's own is given out of hand: it stays -/
theorem freeze_leads {t k : Nat} {E : Env} {B : Bxs} {nx T sz n : Nat} {its : List It} (rows : List (List It0)) (hits : its = rows.flatten.map It.b) (hn : n = rows.length) (hw : ∀ r ∈ rows, widthO r = sz) (hk : lookB B k = none) :
    Leads I nt ⟨(t, .cv (.one (.sl k))) :: E, (k, some ⟨T, some (sz, n), its⟩) :: B, nx⟩ ⟨(t, tit (slI sz rows)) :: E, B, nx⟩ := by
  rintro N0 w0 a w ⟨N, g, h1, h2⟩
  have hbox := h1.boxes k ⟨T, some (sz, n), its⟩ (by rw [lookB_cons, if_pos rfl])
  obtain ⟨A, c, xs, g1, g2, g3, g4⟩ := hbox.own rfl
  let N' : Nat → Prop := fun b => N b ∨ A.map (·.block) = some b
  have hN : ∀ b, N b → N' b := fun b hb => .inl hb
  have hkb : blkOf g k = A.map (·.block) := by unfold blkOf; rw [g1]; cases A <;> rfl
  have hslot := h1.slots t _ (by rw [look_cons, if_pos rfl])
  obtain ⟨A', n', c', e1, e2⟩ := hslot
  rw [g1] at e1
  injection e1 with e1
  injection e1 with e1 e3 e4
  subst e1 e3 e4
  injection e2 with e2
  have hother : ∀ j e b, lookB B j = some e → blkOf g j = some b → A.map (·.block) ≠ some b := by
    intro j e b hj hb hc
    have hjk : j ≠ k := by intro h; rw [h, hk] at hj; cases hj
    have := h1.inj j k e ⟨T, some (sz, n), its⟩ b (by rw [lookB_cons, if_neg (Ne.symm hjk)]; exact hj) (by rw [lookB_cons, if_pos rfl]) hb (by rw [hkb]; exact hc)
    exact hjk this
  have old : ∀ j e, lookB B j = some e → lookB ((k, some (⟨T, some (sz, n), its⟩ : Ent)) :: B) j = some e := by
    intro j e hj
    have hjk : j ≠ k := by intro h; rw [h, hk] at hj; cases hj
    rw [lookB_cons, if_neg (Ne.symm hjk)]; exact hj
  refine ⟨N', g, ⟨?_, ?_, ?_, ?_, ?_, fun b hb => .inl (h1.sup b hb), h1.below, h1.tmps, h1.defers, I.step (WStep.refl _ _) hN h1.inv, h1.rig⟩, h2⟩
  · intro q v hv
    rw [look_cons] at hv
    by_cases hq : t = q
    · subst hq
      rw [if_pos rfl] at hv
      injection hv with hv
      subst hv
      rw [e2]
      subst hits hn
      rcases g2 with ⟨rfl, h0, rfl, rfl⟩ | ⟨b, cs, rfl, r2, r3, r4, r5, r6, r7⟩
      · exact ⟨none, 0, rfl, by omega, by simp [maxLen], fun hr => absurd (List.eq_nil_of_length_eq_zero h0) hr⟩
      · refine ⟨_, c, rfl, r3, r4, fun _ => ⟨b, 0, rfl, fun i r hi => ?_⟩⟩
        obtain ⟨k1, k2⟩ := rows_at hw (semL_semL0 g3)
        have k3 := k2 i r hi
        have hlen := semL0_len k3
        rw [hw r (List.mem_of_getElem? hi)] at hlen
        refine ⟨cs, T, (0, 0), _, .inr rfl, r2, ?_, semL0_step (WStep.refl _ _) hN k3⟩
        rw [Nat.zero_add, hlen, ← r6]
        have hi' : i < rows.length := (List.getElem?_eq_some_iff.1 hi).1
        have hm : i * sz + sz ≤ rows.length * sz := by
          have : (i + 1) * sz ≤ rows.length * sz := Nat.mul_le_mul_right _ hi'
          rw [Nat.add_mul, Nat.one_mul] at this
          exact this
        rw [List.drop_take, List.take_take, Nat.min_eq_left (by omega)]
    · rw [if_neg hq] at hv
      exact TV.step (h1.slots q v (by rw [look_cons, if_neg hq]; exact hv)) (WStep.refl _ _) hN (GExt.refl _)
  · intro j e he
    have hj := h1.boxes j e (old j e he)
    refine hj.keep (WStep.refl _ _) hN ?_ (fun b hb => rfl) (GExt.refl _)
    rintro b hb (hn' | hn')
    · exact hj.notN hb hn'
    · exact hother j e b he hb hn'
  · intro i j e e' b q1 q2
    exact h1.inj i j e e' b (old i e q1) (old j e' q2)
  · rintro b (hb | hb)
    · exact h1.low b hb
    · exact hbox.lt (by rw [hkb]; exact hb)
  · rintro b (hb | hb)
    · exact h1.sub b hb
    · exact .inr ⟨(g4 b hb).2.2, hbox.lt (by rw [hkb]; exact hb)⟩
end
end Go.Proofs.YtociocengfjioaaGreatDoor

/- Fractions of the reference: Reduce, New, FromInt, arithmetic; New, FromInt of the program. -/
namespace Go.Proofs.YtociocengfjioaaGreatDoor
open Go Go.RowKit
set_option linter.unusedVariables false

/-- an integer with its sign and its digits -/
abbrev dsl (s : Bool) (ds : List Nat) : List It := [.b (.lit (.bool s)), .b (.it (DS ds))]
abbrev dz (s : Bool) (z : Int) : List It := dsl s (digits z.natAbs)
theorem dsl_cells {N : Nat → Prop} {w : World} {s : Bool} {ds : List Nat} {l : List Value} (h : semL N w G0 (dsl s ds) l) : ∃ A c, l = [.bool s, .slice A ds.length c] ∧ Rd .u32 w w.heap.size A ds.length ds ∧ ds.length ≤ c ∧ c ≤ 9223372036854775807 := by
  obtain ⟨l1, l2, e, h1, h2⟩ := h
  obtain ⟨A, c, e2, h3, h4, h5⟩ := semL_one h2
  exact ⟨A, c, by rw [e, show l1 = _ from h1, e2]; rfl, h3, h4, h5⟩
theorem num_dsl {s : Bool} {ds : List Nat} (h : W32 ds) (hl : ds.length ≤ 1048576) : Num (dsl s ds) (sgn s (val ds)) := by
  intro N w l hl'
  obtain ⟨A, c, e, h1, h2, h3⟩ := dsl_cells hl'
  exact ⟨s, A, ds.length, c, e, ⟨ds, h1, h, h2, h3, rfl⟩, hl⟩
theorem sgn_of {s : Bool} {z : Int} (h : decide (z < 0) = s) : sgn s z.natAbs = z := by
  unfold sgn
  by_cases hz : z < 0
  · rw [decide_eq_true hz] at h; subst h; simp; omega
  · rw [decide_eq_false hz] at h; subst h; simp; omega
theorem can_dz {s : Bool} {z : Int} (h : decide (z < 0) = s) : Can (dz s z) z := by
  intro N w l hl
  obtain ⟨A, c, e, h1, h2, h3⟩ := dsl_cells hl
  exact ⟨s, A, _, c, e, h1, h.symm, h2, h3⟩
theorem num_dz {s : Bool} {z : Int} {k : Nat} (h : decide (z < 0) = s) (hk : Lim k z) (hk2 : k ≤ 1048576) : Num (dz s z) z := by
  intro N w l hl
  obtain ⟨s', A, n, c, e, hc⟩ := can_dz h N w l hl
  exact ⟨s', A, n, c, e, hc.any, Nat.le_trans (hc.len hk) hk2⟩
theorem ic_dz {s : Bool} {z : Int} (h : decide (z < 0) = s) {N : Nat → Prop} {w : World} {v : Value} (hv : (CT.ag (ic z)).sem N w G0 v) : (CT.ag (dz s z)).sem N w G0 v := by
  obtain ⟨vs, e, h1⟩ := hv
  obtain ⟨s', A, n, c, rfl, h2, h3, h4, h5⟩ := semL_one h1
  have e1 : s' = s := by rw [h3, h]
  have e2 : n = (digits z.natAbs).length := h2.1.symm
  subst e1 e2
  exact ⟨_, e, [.bool s'], _, rfl, rfl, semL_one' ⟨A, c, rfl, h2, h4, h5⟩⟩
theorem dz_ic {s : Bool} {z : Int} (h : decide (z < 0) = s) {N : Nat → Prop} {w : World} {v : Value} (hv : (CT.ag (dz s z)).sem N w G0 v) : (CT.ag (ic z)).sem N w G0 v := by
  obtain ⟨vs, e, h1⟩ := hv
  obtain ⟨s', A, n, c, rfl, h2⟩ := can_dz h N w vs h1
  exact ⟨_, e, semL_one' ⟨s', A, n, c, rfl, h2⟩⟩
/-- two cells of a kind that read as n and d -/
def Pr2 (x : List It) (n d : Int) : Prop := ∀ N w l, semL N w G0 x l → ∃ l1 l2, l = l1 ++ l2 ∧ semL N w G0 (ip (iy n)) l1 ∧ semL N w G0 (ip (iy d)) l2
theorem pr2_app {x y : List It} {n d : Int} (h1 : Num x n) (h2 : Num y d) : Pr2 (x ++ y) n d := by
  intro N w l hl
  obtain ⟨l1, l2, e, k1, k2⟩ := semL_split hl
  obtain ⟨s, A, m, c, e1, a1, a2⟩ := h1 N w l1 k1
  obtain ⟨s', A', m', c', e2, b1, b2⟩ := h2 N w l2 k2
  exact ⟨l1, l2, e, semL_one' ⟨s, A, m, c, e1, a1, a2⟩, semL_one' ⟨s', A', m', c', e2, b1, b2⟩⟩
theorem fk_iy {n d : Int} {k : Nat} (h1 : Lim k n) (h2 : Lim k d) (k0 : 0 < k) (k1 : k ≤ 262144) : Fk (iy n) (iy d) n d k := ⟨num_iy n, num_iy d, h1, h2, k0, k1⟩
section
variable {I : WInv} {f : FuncId} {res : TV} {n d n' d' : Int}
theorem Pr2.sem {x : List It} (h : Pr2 x n d) {N : Nat → Prop} {w : World} {v : Value} (hv : (CT.ag x).sem N w G0 v) : (fr (iy n) (iy d)).sem N w G0 v := by
  obtain ⟨vs, e, h1⟩ := hv
  obtain ⟨l1, l2, e1, h2, h3⟩ := h N w vs h1
  exact ⟨vs, e, by rw [e1]; exact semL_append h2 h3⟩
/-- a contract at a fraction of another form -/
theorem Sp.f1 {x : List It} (h : Sp Tryz.prog I f [fr (iy n) (iy d)] res) (hx : Pr2 x n d) : Sp Tryz.prog I f [.ag x] res :=
  h.sub fun N w vs ⟨v, l, e, h1, h2⟩ => ⟨v, l, e, hx.sem h1, h2⟩
theorem Sp.f2 {x y : List It} (h : Sp Tryz.prog I f [fr (iy n) (iy d), fr (iy n') (iy d')] res) (hx : Pr2 x n d) (hy : Pr2 y n' d') : Sp Tryz.prog I f [.ag x, .ag y] res :=
  h.sub fun N w vs ⟨v, l, e, h1, v2, l2, e2, h2, h3⟩ => ⟨v, l, e, hx.sem h1, v2, l2, e2, hy.sem h2, h3⟩
variable {x y : List It} {k k' : Nat}
theorem rcanon_o (s : Bool) (hx : Num x n) (hs : decide (n < 0) = s) : Sp Tryz.prog I 80 [.ag x] (.cv (.ag (dz s n))) := (rcanon_sp hx).res fun N w v h => ic_dz hs h
theorem rmake_sp (s : Bool) (m : Nat) (hm : (digits m).length ≤ 1099511627776) : Sp Tryz.prog I 65 [.one (.b (.lit (.bool s))), .one (.b (.it (DS (digits m))))] (tic (sgn s m)) := by
  intro N w vs _ _ hv
  obtain ⟨v, r, rfl, h1, v2, r2, rfl, h3, h4⟩ := hv
  have h1 : [v] = [.bool s] := h1
  injection h1 with h1
  obtain rfl : r2 = [] := h4
  obtain ⟨A, c, e3, q1, q2, q3⟩ := h3
  injection e3 with e3
  subst h1 e3
  exact (make_mag s w q1 q2 q3 hm).mono fun e w' he => retInt_sem he
theorem rdd_sp (a b : Nat) (hb : b ≠ 0) (ha : (digits a).length ≤ 1073741824) (hb2 : (digits b).length ≤ 1073741824) : Sp Tryz.prog I 116 [.one (.b (.it (DS (digits a)))), .one (.b (.it (DS (digits b))))] (.tu [.one (.b (.it (DS (digits (a / b))))), .one (.b (.it (DS (digits (a % b)))))]) := by
  intro N w vs _ _ hv
  obtain ⟨v, r, rfl, h1, v2, r2, rfl, h3, h4⟩ := hv
  obtain rfl : r2 = [] := h4
  obtain ⟨A, c, e1, q1, q2, q3⟩ := h1
  obtain ⟨A', c', e3, q4, q5, q6⟩ := h3
  injection e1 with e1
  injection e3 with e3
  subst e1 e3
  refine (divDigits_any w q1 q4 q2 q3 q5 q6 ha hb2 hb).mono ?_
  rintro e w' ⟨B, n, d, B', n', d', rfl, r1, r2, r3, r4, r5, r6, r7⟩
  have l1 := r1.len
  have l2 := r2.len
  subst l1 l2
  exact ⟨_, rfl, ⟨_, rfl, _, _, rfl, ⟨B, d, rfl, r1, r3, r4⟩, _, _, rfl, ⟨B', d', rfl, r2, r5, r6⟩, rfl⟩, r7⟩
theorem rdm_plain {a b : Int} (hb : b ≠ 0) {s t : Bool} (hs : decide (a < 0) = s) (ht : decide (b < 0) = t) :
    ((0 < a.natAbs % b.natAbs ∧ s ≠ t) → sgn (s != t) (a.natAbs / b.natAbs) - 1 = a.fdiv b ∧ sgn s (a.natAbs % b.natAbs) + b = a.fmod b) ∧ (¬ (0 < a.natAbs % b.natAbs ∧ s ≠ t) → sgn (s != t) (a.natAbs / b.natAbs) = a.fdiv b ∧ sgn s (a.natAbs % b.natAbs) = a.fmod b) := by
  have ea : sgn s a.natAbs = a := by subst hs; unfold sgn; by_cases h : a < 0 <;> simp [h] <;> omega
  have eb : sgn t b.natAbs = b := by subst ht; unfold sgn; by_cases h : b < 0 <;> simp [h] <;> omega
  refine ⟨fun h => ?_, fun h => ?_⟩
  · have := trunc_floor (a := a.natAbs) (b := b.natAbs) (by omega) h.1 h.2
    rwa [ea, eb] at this
  · have := trunc_floor' (a := a.natAbs) (b := b.natAbs) (by omega) h
    rwa [ea, eb] at this
theorem rdmL_sp {q1 q2 : IntP} {a b : Int} (hx : Num (ip q1) a) (hy : Num (ip q2) b) (la : Lim 1048576 a) (lb : Lim 1048576 b) (hb : b ≠ 0) : Sp Tryz.prog I 82 [.ag (ip q1), .ag (ip q2)] (tdm (a.fdiv b) (a.fmod b) 0) := by
  obtain ⟨s, hs⟩ : ∃ s, decide (a < 0) = s := ⟨_, rfl⟩
  obtain ⟨t, ht⟩ : ∃ t, decide (b < 0) = t := ⟨_, rfl⟩
  obtain ⟨f1, f2⟩ := rdm_plain hb hs ht
  have ca := rcanon_o (I := I) s hx hs
  have cb := rcanon_o (I := I) t hy ht
  have nb := num_dz (s := t) ht lb (Nat.le_refl _)
  have hla : (digits a.natAbs).length ≤ 1048576 := digits_len_le la
  have hlb : (digits b.natAbs).length ≤ 1048576 := digits_len_le lb
  have dd := rdd_sp (I := I) a.natAbs b.natAbs (by omega) (by omega) (by omega)
  have hb1 : 1 ≤ (digits b.natAbs).length := by
    have := digits_nil_iff b.natAbs
    omega
  have lq : Lim 1048576 (sgn (s != t) (a.natAbs / b.natAbs)) := by unfold Lim; rw [sgn_natAbs]; exact Nat.lt_of_le_of_lt (Nat.div_le_self _ _) la
  have lr : Lim 1048576 (sgn s (a.natAbs % b.natAbs)) := by unfold Lim; rw [sgn_natAbs]; exact Nat.lt_of_le_of_lt (Nat.mod_le _ _) la
  have mq := rmake_sp (I := I) (s != t) (a.natAbs / b.natAbs) (by have := digits_len_le lq; rw [sgn_natAbs] at this; omega)
  obtain ⟨u, hu⟩ : ∃ u, decide (sgn s (a.natAbs % b.natAbs) < 0) = u := ⟨_, rfl⟩
  have mr : Sp Tryz.prog I 65 [.one (.b (.lit (.bool s))), .one (.b (.it (DS (digits (a.natAbs % b.natAbs)))))] (.cv (.ag (dz u (sgn s (a.natAbs % b.natAbs))))) := (rmake_sp (I := I) s (a.natAbs % b.natAbs) (by have := digits_len_le lr; rw [sgn_natAbs] at this; omega)).res fun N w v h => ic_dz hu h
  have e0 : (sgn s (a.natAbs % b.natAbs)).natAbs = a.natAbs % b.natAbs := sgn_natAbs _ _
  have hr0 := digits_nil_iff (a.natAbs % b.natAbs)
  have fin : ∀ {q r : Int}, q = a.fdiv b → r = a.fmod b → decide (r < 0) = u → Sp Tryz.prog I 82 [.ag (ip q1), .ag (ip q2)] (.tu [.ag (ic q), .ag (dz u r), ci 0]) → Sp Tryz.prog I 82 [.ag (ip q1), .ag (ip q2)] (tdm (a.fdiv b) (a.fmod b) 0) := by
    rintro q r rfl rfl hd h
    refine h.res ?_
    rintro N w v ⟨vs, e, v1, l1, e1, h1, v2, l2, e2, h2, h3⟩
    exact ⟨vs, e, v1, l1, e1, h1, v2, l2, e2, dz_ic hd h2, h3⟩
  unfold dz at mr nb
  rw [e0] at mr
  have num_q := num_ic lq (Nat.le_refl _)
  have num_r : Num (dsl u (digits (a.natAbs % b.natAbs))) (sgn s (a.natAbs % b.natAbs)) := by
    have := num_dz (s := u) hu lr (Nat.le_refl _)
    unfold dz at this
    rwa [e0] at this
  unfold dz at ca cb fin
  have n1 := num_ic (lim_one (k := 1048576) (by omega)) (Nat.le_refl _)
  have lb1 := ds_len (P := Tryz.prog) 22 86 3 (digits b.natAbs) Tryz.underlying22
  have lr1 := ds_len (P := Tryz.prog) 22 86 3 (digits (a.natAbs % b.natAbs)) Tryz.underlying22
  by_cases h0 : a.natAbs % b.natAbs = 0
  · obtain ⟨g1, g2⟩ := f2 (by omega)
    refine fin g1 g2 hu ?_
    rw [e0]
    cases s <;> cases t <;> exact sp_run (nt := 59) 1000 [po ca, po cb, pk lb1, pk (b_eql 3 (((digits b.natAbs).length : Nat) : Int) 0 false (decide_eq_false (by omega))), po dd, po mq, po mr, pk lr1, pk (b_gtr 3 (((digits (a.natAbs % b.natAbs)).length : Nat) : Int) 0 false (decide_eq_false (by omega)))] (by kernel_rfl)
  · by_cases hst : s = t
    · obtain ⟨g1, g2⟩ := f2 (fun h => h.2 hst)
      refine fin g1 g2 hu ?_
      rw [e0]
      subst hst
      cases s <;> exact sp_run (nt := 59) 1000 [po ca, po cb, pk lb1, pk (b_eql 3 (((digits b.natAbs).length : Nat) : Int) 0 false (decide_eq_false (by omega))), po dd, po mq, po mr, pk lr1, pk (b_gtr 3 (((digits (a.natAbs % b.natAbs)).length : Nat) : Int) 0 true (decide_eq_true (by omega)))] (by kernel_rfl)
    · obtain ⟨g1, g2⟩ := f1 ⟨by omega, hst⟩
      rw [← g1, ← g2]
      cases s <;> cases t <;> first | exact absurd rfl hst | exact sp_run (nt := 59) 1000 [po ca, po cb, pk lb1, pk (b_eql 3 (((digits b.natAbs).length : Nat) : Int) 0 false (decide_eq_false (by omega))), po dd, po mq, po mr, pk lr1, pk (b_gtr 3 (((digits (a.natAbs % b.natAbs)).length : Nat) : Int) 0 true (decide_eq_true (by omega))), po (ri64_sp 1 (by omega) (by omega)), po (rsub_sp num_q n1), po (radd_sp num_r nb)] (by kernel_rfl)
theorem one_sp : Sp Tryz.prog I 79 [] (tic 1) := sp_run (nt := 2) 1000 [po (ri64_sp 1 (by omega) (by omega))] (by kernel_rfl)
theorem digits_len0 {z : Int} (h : z = 0) : (((digits z.natAbs).length : Nat) : Int) = 0 := by subst h; rw [show Int.natAbs 0 = 0 from rfl, digits_zero]; rfl
theorem digits_len1 {z : Int} (h : z ≠ 0) : (((digits z.natAbs).length : Nat) : Int) ≠ 0 := by
  intro h0
  have : (digits z.natAbs) = [] := List.eq_nil_of_length_eq_zero (by omega)
  have h2 := val_digits z.natAbs
  rw [this, val_nil] at h2
  omega
theorem zero_lits {N : Nat → Prop} {w : World} {v : Value} (h : (CT.ag (litI ++ ic 1)).sem N w G0 v) : (frc 0).sem N w G0 v := by
  obtain ⟨vs, e, h1⟩ := h
  obtain ⟨l1, l2, e1, h2, h3⟩ := semL_split h1
  obtain ⟨s, A, m, c, e2, h4⟩ := can_lit N w l1 h2
  exact ⟨vs, e, by rw [e1]; exact semL_append (semL_one' ⟨s, A, m, c, e2, h4⟩) h3⟩
/-- Reduce: any two integers -/
theorem rreduce_any {q1 q2 : IntP} (h1 : Num (ip q1) n) (h2 : Num (ip q2) d) (hk1 : Lim 1048576 n) (hk2 : Lim 1048576 d) : Sp Tryz.prog I 34 [fr q1 q2] (tfr (Rat.divInt n d)) := by
  by_cases hn : n = 0
  · have e : Rat.divInt n d = 0 := by subst hn; exact Rat.zero_divInt d
    rw [e]
    refine Sp.res (res := .cv (.ag (litI ++ ic 1))) ?_ fun N w v h => zero_lits h
    subst hn
    have hd0 : ∃ s, decide (d < 0) = s := ⟨_, rfl⟩
    obtain ⟨s, hs⟩ := hd0
    exact sp_run (nt := 50) 1000 [po (rcanon_o false h1 rfl), po (rcanon_o s h2 hs), pk (ds_len 22 86 3 (digits (Int.natAbs (0))) Tryz.underlying22), pk (b_eql 3 (((digits (Int.natAbs (0))).length : Nat) : Int) 0 true (decide_eq_true (digits_len0 rfl))), po one_sp] (by kernel_rfl)
  · by_cases hd : d = 0
    · have e : Rat.divInt n d = 0 := by subst hd; exact Rat.divInt_zero n
      rw [e]
      refine Sp.res (res := .cv (.ag (litI ++ ic 1))) ?_ fun N w v h => zero_lits h
      subst hd
      obtain ⟨s, hs⟩ : ∃ s, decide (n < 0) = s := ⟨_, rfl⟩
      exact sp_run (nt := 50) 1000 [po (rcanon_o s h1 hs), po (rcanon_o false h2 rfl), pk (ds_len 22 86 3 (digits (Int.natAbs (n))) Tryz.underlying22), pk (b_eql 3 (((digits (Int.natAbs (n))).length : Nat) : Int) 0 false (decide_eq_false (digits_len1 hn))), pk (ds_len 22 86 3 (digits (Int.natAbs (0))) Tryz.underlying22), pk (b_eql 3 (((digits (Int.natAbs (0))).length : Nat) : Int) 0 true (decide_eq_true (digits_len0 rfl))), po one_sp] (by kernel_rfl)
    · obtain ⟨s, hs⟩ : ∃ s, decide (n < 0) = s := ⟨_, rfl⟩
      have c1 := num_dz hs hk1 (Nat.le_refl _)
      rcases Int.lt_or_gt_of_ne hd with hdd | hdd
      · have c2 := num_dz (decide_eq_true hdd) hk2 (Nat.le_refl _)
        have m1 : Num (ic (-n)) (-n) := num_ic hk1.neg (Nat.le_refl _)
        have m2 : Num (ic (-d)) (-d) := num_ic hk2.neg (Nat.le_refl _)
        have hp : 0 < -d := by omega
        have hg := gcd_ne (n := -n) (d := -d) (by omega)
        have mg : Num (ic ((Nat.gcd (-n).natAbs (-d).natAbs : Nat) : Int)) _ := num_ic (lim_gcd hk2.neg (by omega)) (Nat.le_refl _)
        rw [← rat_neg n d]
        unfold tfr frc
        rw [rat_num_pos hp, rat_den_pos hp]
        exact sp_run (nt := 50) 1000 [po (rcanon_o s h1 hs), po (rcanon_o true h2 (decide_eq_true hdd)), pk (ds_len 22 86 3 (digits (Int.natAbs (n))) Tryz.underlying22), pk (b_eql 3 (((digits (Int.natAbs (n))).length : Nat) : Int) 0 false (decide_eq_false (digits_len1 hn))), pk (ds_len 22 86 3 (digits (Int.natAbs (d))) Tryz.underlying22), pk (b_eql 3 (((digits (Int.natAbs (d))).length : Nat) : Int) 0 false (decide_eq_false (digits_len1 hd))), po (rneg_sp c1), po (rneg_sp c2), po (rgcd_sp m1 m2), po (rdm_sp m1 mg hg), po (rdm_sp m2 mg hg)] (by kernel_rfl)
      · have hs2 : decide (d < 0) = false := decide_eq_false (by omega)
        have c2 := num_dz hs2 hk2 (Nat.le_refl _)
        have hp : 0 < d := hdd
        have hg := gcd_ne (n := n) (d := d) (by omega)
        have mg : Num (ic ((Nat.gcd n.natAbs d.natAbs : Nat) : Int)) _ := num_ic (lim_gcd hk2 (by omega)) (Nat.le_refl _)
        unfold tfr frc
        rw [rat_num_pos hp, rat_den_pos hp]
        exact sp_run (nt := 50) 1000 [po (rcanon_o s h1 hs), po (rcanon_o false h2 hs2), pk (ds_len 22 86 3 (digits (Int.natAbs (n))) Tryz.underlying22), pk (b_eql 3 (((digits (Int.natAbs (n))).length : Nat) : Int) 0 false (decide_eq_false (digits_len1 hn))), pk (ds_len 22 86 3 (digits (Int.natAbs (d))) Tryz.underlying22), pk (b_eql 3 (((digits (Int.natAbs (d))).length : Nat) : Int) 0 false (decide_eq_false (digits_len1 hd))), po (rgcd_sp c1 c2), po (rdm_sp c1 mg hg), po (rdm_sp c2 mg hg)] (by kernel_rfl)
end
end Go.Proofs.YtociocengfjioaaGreatDoor

/- Fractions: New, FromInts, FromInt, SameFrac; Light; Format; awake. -/
namespace Go.Proofs.YtociocengfjioaaGreatDoor
open Go Go.RowKit
set_option linter.unusedVariables false
set_option linter.unusedSimpArgs false

section
variable {I : WInv} {n d n' d' : Int} {k k' : Nat} {x y : List It} {q1 q2 q3 q4 : IntP}
abbrev frz : CT := .ag (litI ++ litI)
theorem new_sp (h1 : Num (ip q1) n) (h2 : Num (ip q2) d) (hk1 : Lim 1048576 n) (hk2 : Lim 1048576 d) (hd : d ≠ 0) : Sp Tryz.prog I 83 [.ag (ip q1), .ag (ip q2)] (.tu [frc (Rat.divInt n d), ci 0]) := by
  rcases Int.lt_or_gt_of_ne hd with h | h
  · exact sp_run (nt := 13) 1000 [po (sign_sp (-1) h2 (Int.sign_eq_neg_one_of_neg h)), po (reduce_sp h1 h2 hk1 hk2 hd)] (by kernel_rfl)
  · exact sp_run (nt := 13) 1000 [po (sign_sp 1 h2 (Int.sign_eq_one_of_pos h)), po (reduce_sp h1 h2 hk1 hk2 hd)] (by kernel_rfl)
theorem new_zero (h1 : Num (ip q1) n) (h2 : Num (ip q2) 0) : Sp Tryz.prog I 83 [.ag (ip q1), .ag (ip q2)] (.tu [frz, ci 11]) :=
  sp_run (nt := 13) 1000 [po (sign_sp 0 h2 rfl)] (by kernel_rfl)
theorem rnew_sp (h1 : Num (ip q1) n) (h2 : Num (ip q2) d) (hk1 : Lim 1048576 n) (hk2 : Lim 1048576 d) (hd : d ≠ 0) : Sp Tryz.prog I 76 [.ag (ip q1), .ag (ip q2)] (.tu [frc (Rat.divInt n d), ci 0]) := by
  rcases Int.lt_or_gt_of_ne hd with h | h
  · exact sp_run (nt := 14) 1000 [po (rsign_sp (-1) h2 (Int.sign_eq_neg_one_of_neg h)), po (rreduce_any h1 h2 hk1 hk2)] (by kernel_rfl)
  · exact sp_run (nt := 14) 1000 [po (rsign_sp 1 h2 (Int.sign_eq_one_of_pos h)), po (rreduce_any h1 h2 hk1 hk2)] (by kernel_rfl)
theorem rnew_zero (h1 : Num (ip q1) n) (h2 : Num (ip q2) 0) : Sp Tryz.prog I 76 [.ag (ip q1), .ag (ip q2)] (.tu [frz, ci 11]) :=
  sp_run (nt := 14) 1000 [po (rsign_sp 0 h2 rfl)] (by kernel_rfl)
theorem lim64 {z : Int} (h : R64 z) : Lim 2 z := by
  unfold Lim
  have : z.natAbs ≤ 9223372036854775808 := by omega
  exact Nat.lt_of_le_of_lt this (by decide)
theorem fromInts_sp {a b : Int} (ha : R64 a) (hb : R64 b) (h0 : b ≠ 0) : Sp Tryz.prog I 36 [ci a, ci b] (.tu [frc (Rat.divInt a b), ci 0]) :=
  sp_run (nt := 13) 1000 [po (i64_sp a ha.1 ha.2), po (i64_sp b hb.1 hb.2), po (new_sp (num_ic (lim64 ha) (by omega)) (num_ic (lim64 hb) (by omega)) ((lim64 ha).mono (by omega)) ((lim64 hb).mono (by omega)) h0)] (by kernel_rfl)
theorem fromInts_zero {a : Int} (ha : R64 a) : Sp Tryz.prog I 36 [ci a, ci 0] (.tu [frz, ci 11]) :=
  sp_run (nt := 13) 1000 [po (i64_sp a ha.1 ha.2), po (i64_sp 0 (by omega) (by omega)), po (new_zero (num_ic (lim64 ha) (by omega)) (num_ic (lim_zero 1) (by omega)))] (by kernel_rfl)
theorem fromInt_sp (h1 : Num (ip q1) n) : Sp Tryz.prog I 72 [.ag (ip q1)] (tfr (n : Rat)) := by
  have h : Sp Tryz.prog I 72 [.ag (ip q1)] (.cv (fr (cP (n + 0)) (cP 1))) :=
    sp_run (nt := 8) 1000 [po (add_sp h1 num_lit), po (i64_sp 1 (by omega) (by omega))] (by kernel_rfl)
  rw [Int.add_zero] at h
  exact h
theorem rat_one (n : Int) : Rat.divInt n 1 = (n : Rat) := by rw [Rat.divInt_eq_div, Rat.intCast_one, Rat.div_def]; grind
theorem rfromInt_sp (h1 : Num (ip q1) n) (hk : Lim 1048576 n) : Sp Tryz.prog I 64 [.ag (ip q1)] (tfr (n : Rat)) := by
  rw [← rat_one n]
  exact sp_run (nt := 7) 1000 [po one_sp, po (rreduce_any h1 (num_ic (lim_one (by omega) : Lim 1 1) (by omega)) hk ((lim_one (by omega) : Lim 1 1).mono (by omega)))] (by kernel_rfl)
theorem whole_sp {a : Int} (ha : R64 a) : Sp Tryz.prog I 56 [ci a] (tfr (a : Rat)) :=
  sp_run (nt := 6) 1000 [po (ri64_sp a ha.1 ha.2), po (rfromInt_sp (num_ic (lim64 ha) (by omega)) ((lim64 ha).mono (by omega)))] (by kernel_rfl)
theorem sameFrac_eq (q : Rat) : Sp Tryz.prog I 47 [frc q, frc q] (lb true) :=
  sp_run (nt := 17) 1000 [po (same_sp true (can_ic q.num) (can_ic q.num) (decide_eq_true rfl)), po (same_sp true (can_ic (q.den : Int)) (can_ic (q.den : Int)) (decide_eq_true rfl))] (by kernel_rfl)
theorem sameFrac_zz : Sp Tryz.prog I 47 [frz, frz] (lb true) :=
  sp_run (nt := 17) 1000 [po (same_sp true can_lit can_lit rfl), po (same_sp true can_lit can_lit rfl)] (by kernel_rfl)
theorem sameq_eq (q : Rat) : Sp Tryz.prog I 15 [frc q, frc q] (lb true) :=
  sp_run (nt := 8) 1000 [po (sameFrac_eq q)] (by kernel_rfl)
theorem sameq_zz : Sp Tryz.prog I 15 [frz, frz] (lb true) :=
  sp_run (nt := 8) 1000 [po sameFrac_zz] (by kernel_rfl)

/-! ### Light -/
abbrev Dg := Bool × List Nat
abbrev rowI (p : Dg) : List It0 := [.lit (.bool p.1), .it (DS p.2)]
abbrev rowsI (xs : List Dg) : List (List It0) := xs.map rowI
def lens (xs : List Dg) : Nat := (xs.map fun p => p.2.length).sum
def ltst (xs : List Dg) (t i : Int) : St := ⟨[(0, tit (slI 2 (rowsI xs))), (2, lb false), (3, li t), (4, li i)], [], 50⟩
theorem lens_take (xs : List Dg) (i : Nat) (p : Dg) (h : xs[i]? = some p) : lens (xs.take (i + 1)) = lens (xs.take i) + p.2.length := by
  obtain ⟨h1, h2⟩ := List.getElem?_eq_some_iff.1 h
  unfold lens
  rw [List.take_succ_eq_append_getElem h1, List.map_append, List.sum_append, h2]
  simp
theorem lens_le (xs : List Dg) (i : Nat) : lens (xs.take i) ≤ lens xs := by
  have : xs = xs.take i ++ xs.drop i := (List.take_append_drop i xs).symm
  have h2 : lens xs = lens (xs.take i) + lens (xs.drop i) := by
    conv => lhs; rw [this]
    unfold lens; rw [List.map_append, List.sum_append]
  omega
theorem light1_loop (xs : List Dg) (hx : lens xs ≤ 4611686018427387904) (hl : xs.length ≤ 1000) : LoopTr Tryz.prog I 21 (loopC Tryz.prog 35 0) (ltst xs 0 0) (.exit 0) (ltst xs (lens xs) xs.length) := by
  refine loop_tr (ι := Nat) (by simp) (fun i => ltst xs (lens (xs.take i)) i) (fun i => xs.length - i) (fun i => i ≤ xs.length) 0 (Nat.zero_le _) ?_
  intro i hi
  have hl1 : (((rowsI xs).length : Nat) : Int) = (xs.length : Int) := by rw [List.length_map]
  by_cases h : i < xs.length
  · left
    refine ⟨i + 1, h, by show xs.length - (i + 1) < xs.length - i; omega, ?_⟩
    have hp : xs[i]? = some xs[i] := List.getElem?_eq_getElem h
    have e1 := lens_take xs i xs[i] hp
    have e2 := lens_le xs (i + 1)
    have hr : (rowsI xs)[i]? = some (rowI xs[i]) := by rw [List.getElem?_map, hp]; rfl
    have hrn : Rnd Tryz.prog I 21 (loopC Tryz.prog 35 0) (ltst xs (lens (xs.take i)) i) .normal (ltst xs ((lens (xs.take i) : Int) + ((xs[i].2.length : Nat) : Int)) ((i : Int) + 1)) :=
      rnd_run 1000 [pk (sl_len 80 24 3 2 (rowsI xs) Tryz.underlying80), pk (b_lss 3 (i : Int) (((rowsI xs).length : Nat) : Int) true (decide_eq_true (by rw [hl1]; omega))),
        pk (sl_idx 80 24 2 (rowsI xs) i i (rowI xs[i]) Tryz.underlying80 (by kernel_rfl) rfl hr), pk (ds_len 22 86 3 xs[i].2 Tryz.underlying22),
        pk (b_add 3 (lens (xs.take i) : Int) ((xs[i].2.length : Nat) : Int) ⟨by omega, by omega⟩), pk (b_add 3 (i : Int) 1 ⟨by omega, by omega⟩)] (by kernel_rfl)
    have e3 : ((lens (xs.take (i + 1)) : Nat) : Int) = (lens (xs.take i) : Int) + ((xs[i].2.length : Nat) : Int) := by omega
    have e4 : (((i + 1 : Nat)) : Int) = (i : Int) + 1 := by omega
    show Rnd _ _ _ _ _ _ (ltst xs ((lens (xs.take (i + 1)) : Nat) : Int) ((i + 1 : Nat) : Int))
    rw [e3, e4]
    exact hrn
  · right
    have hi2 : i = xs.length := by omega
    subst hi2
    rw [List.take_length]
    exact rnd_run 1000 [pk (sl_len 80 24 3 2 (rowsI xs) Tryz.underlying80), pk (b_lss 3 (xs.length : Int) (((rowsI xs).length : Nat) : Int) false (decide_eq_false (by rw [hl1]; omega)))] (by kernel_rfl)
theorem light1_sp (xs : List Dg) (hx : lens xs ≤ 4611686018427387904) (hl : xs.length ≤ 1000) (b : Bool) (hb : decide (lens xs ≤ 60) = b) : Sp Tryz.prog I 35 [.one (.b (.it (slI 2 (rowsI xs))))] (lb b) :=
  sp_run (nt := 21) 1000 [pl (light1_loop xs hx hl), pk (b_leq 3 (lens xs : Int) 60 b (by rw [← hb]; exact decide_eq_decide.2 (by omega)))] (by kernel_rfl)
abbrev tD (p : Dg) : TV := .cv (.ag (dsl p.1 p.2))
theorem bs2_int (p q : Dg) : OpOb Tryz.prog (.bs 80 2 [0, 1]) [tD p, tD q] (tit (slI 2 (rowsI [p, q]))) :=
  bs_ob (e := 24) (cts := [.ag (dsl p.1 p.2), .ag (dsl q.1 q.2)]) (z := [.bool false, .slice none 0 0]) (bytes := 32) (by kernel_rfl) (by decide) (by kernel_rfl) rfl rfl (by intro r hr; simp at hr; rcases hr with rfl | rfl <;> rfl)
end
end Go.Proofs.YtociocengfjioaaGreatDoor

/- Fractions: Format, awake; from contracts to laws. -/
namespace Go.Proofs.YtociocengfjioaaGreatDoor
open Go Go.RowKit
set_option linter.unusedVariables false
set_option linter.unusedSimpArgs false

theorem Tab.keep {w w' : World} (h : Tab w) (hb : w'.heap[1]? = w.heap[1]?) : Tab w' := by
  unfold Tab Lib.TabIs World.var? at *
  have hg : Tryz.prog.globalNamed "internal/strconv.uint64pow10" = some 1 := by kernel_rfl
  simp only [hg, Option.bind_some] at h ⊢
  rw [hb]
  exact h
theorem Tab.lt {w : World} (h : Tab w) : 1 < w.heap.size := by
  unfold Tab Lib.TabIs World.var? at h
  have hg : Tryz.prog.globalNamed "internal/strconv.uint64pow10" = some 1 := by kernel_rfl
  simp only [hg, Option.bind_some] at h
  rcases Nat.lt_or_ge 1 w.heap.size with h' | h'
  · exact h'
  · rw [Array.getElem?_eq_none h'] at h; simp at h
/-- the table of powers of ten stays -/
def tabW : WInv := ⟨fun N w => Tab w ∧ N 1, fun {N N' w w'} hw hN ⟨h1, h2⟩ => ⟨h1.keep (by
  rcases hw.keep _ h1.lt with e | e
  · exact e
  · exact absurd h2 e.1), hN _ h2⟩⟩
/-- decimal notation -/
def fmtS (z : Int) : ByteArray := strOf (decz (decide (z < 0)) z.natAbs)
theorem fmt_any {s : Bool} {z : Int} (h : z = sgn s z.natAbs) : strOf (decz s z.natAbs) = fmtS z := by
  unfold fmtS
  by_cases h0 : z = 0
  · subst h0; rw [show Int.natAbs 0 = 0 from rfl, decz_zero, decz_zero]
  · congr 2
    cases s with
    | true => rw [sgn_t] at h; rw [decide_eq_true]; omega
    | false => rw [sgn_f] at h; rw [decide_eq_false]; omega
section
variable {x : List It} {z : Int} {P : Program}
theorem fmt_sp (hx : Num x z) : Sp Tryz.prog tabW 61 [.ag x] (tlit (.string (fmtS z))) := by
  intro N w vs hI _ hv
  obtain ⟨l, rfl, h1⟩ := args1 hv
  obtain ⟨s, A, n, c, rfl, h2, h3⟩ := hx N w l h1
  rw [← fmt_any h2.sign_eq]
  exact (format_any w h2 (by omega) hI.1).mono fun e w' he => retV_sem he
theorem s_add (t : TypeId) (a b : ByteArray) (h : a.size + b.size ≤ 9223372036854775807) : OpOb P (.bin .add t) [tlit (.string a), tlit (.string b)] (tlit (.string (a ++ b))) := op_lit (vs := [.string a, .string b]) fun w => by
  have h' : ¬ (9223372036854775807 < ((a.size + b.size : Nat) : Int)) := by omega
  simp only [OpK.run, binOp, Op.stringOp]
  have hg : (eqGuard .add t (.tmp 0) (.tmp 1) (.string a) (.string b)).run P w = .ok () w := by simp [eqGuard]
  rw [Sem.run_bind, hg]
  simp only [Result.andThen_ok]
  rw [if_neg (by show ¬ (((a.size + b.size : Nat) : Int) > 9223372036854775807); omega)]
  rfl
theorem s_eql (t : TypeId) (a b : ByteArray) (c : Bool) (h : (a.toList == b.toList) = c) : OpOb P (.bin .eql t) [tlit (.string a), tlit (.string b)] (lb c) := op_lit (vs := [.string a, .string b]) fun w => by
  subst h; simp [OpK.run, eqGuard, binOp, Op.stringOp]
theorem s_neq (t : TypeId) (a b : ByteArray) (c : Bool) (h : (a.toList == b.toList) = !c) : OpOb P (.bin .neq t) [tlit (.string a), tlit (.string b)] (lb c) := op_lit (vs := [.string a, .string b]) fun w => by
  simp [OpK.run, eqGuard, binOp, Op.stringOp, h]
theorem fmtS_5 : fmtS 5 = ⟨#[53]⟩ := by unfold fmtS; rw [decz, if_neg (by decide), show Int.natAbs 5 = 5 from rfl, dec_small (by omega)]; rfl
theorem fmtS_6 : fmtS 6 = ⟨#[54]⟩ := by unfold fmtS; rw [decz, if_neg (by decide), show Int.natAbs 6 = 6 from rfl, dec_small (by omega)]; rfl
abbrev q12 : Rat := Rat.divInt 1 2
abbrev q13 : Rat := Rat.divInt 1 3
theorem l12 : Lim 1 q12.num ∧ Lim 1 (q12.den : Int) := ⟨lim_num (lim_one (by omega)), lim_den (by unfold Lim; decide) (by omega)⟩
theorem l13 : Lim 1 q13.num ∧ Lim 1 (q13.den : Int) := ⟨lim_num (lim_one (by omega)), lim_den (by unfold Lim; decide) (by omega)⟩
theorem q56 : Rat.divInt q12.num q12.den + Rat.divInt q13.num q13.den = Rat.divInt 5 6 := by
  rw [rat_self, rat_self]
  decide +kernel
theorem q56n : (Rat.divInt 5 6).num = 5 := by decide +kernel
theorem q56d : ((Rat.divInt 5 6).den : Int) = 6 := by decide +kernel
theorem format56 : Sp Tryz.prog tabW 30 [frc (Rat.divInt 5 6)] (tlit (.string ⟨#[53, 47, 54]⟩)) := by
  have k5 : Lim 1 5 := by unfold Lim; decide
  have k6 : Lim 1 6 := by unfold Lim; decide
  have hp := parts_pos (I := tabW) (num_ic k5 (by omega)) (num_ic k6 (by omega)) (by omega)
  have hr := reduce_sp (I := tabW) (num_ic k5 (by omega)) (num_ic k6 (by omega)) (k5.mono (by omega)) (k6.mono (by omega)) (by omega)
  unfold tfr at hr
  unfold frc at hr ⊢
  rw [q56n, q56d] at hr ⊢
  have f5 := fmt_sp (num_ic k5 (by omega))
  have f6 := fmt_sp (num_ic k6 (by omega))
  rw [fmtS_5] at f5
  rw [fmtS_6] at f6
  exact sp_run (nt := 28) 1000 [po hp, po hr, po f5, po f6, pk (s_neq 9 ⟨#[54]⟩ ⟨#[49]⟩ true (by decide +kernel)), pk (s_add 9 ⟨#[47]⟩ ⟨#[54]⟩ (by decide)), pk (s_add 9 ⟨#[53]⟩ (⟨#[47]⟩ ++ ⟨#[54]⟩) (by decide))] (by kernel_rfl)
theorem awakeq_sp : Sp Tryz.prog tabW 8 [] (lb true) := by
  have h := addq_sp (I := tabW) (fk_rat l12.1 l12.2 (by omega) (by omega)) (fk_rat l13.1 l13.2 (by omega) (by omega)) (by omega)
  rw [q56] at h
  exact sp_run (nt := 26) 1000 [po (fromInts_sp (a := 1) (b := 2) ⟨by omega, by omega⟩ ⟨by omega, by omega⟩ (by omega)), po (fromInts_sp (a := 1) (b := 3) ⟨by omega, by omega⟩ ⟨by omega, by omega⟩ (by omega)), po h, po format56, pk (s_eql 9 ⟨#[53, 47, 54]⟩ ⟨#[53, 47, 54]⟩ true (by decide +kernel))] (by kernel_rfl)
/-- a law, out of its contract -/
theorem law_any {I : WInv} {f : FuncId} {args : List CT} (h : Sp Tryz.prog I f args (lb true)) {w : World} {vs : List Value} (hI : I.T (fun b => b < w.heap.size) w) (hv : all2 (CT.sem (fun b => b < w.heap.size) w G0) args vs) : Calls Tryz.prog f vs.toArray w (RetV w (.bool true)) :=
  (h (fun b => b < w.heap.size) w vs hI (fun _ h => h) hv).mono fun e w' ⟨v, h1, h2, h3⟩ => by
    have h2 : [v] = [.bool true] := h2
    injection h2 with h2
    exact ⟨by rw [h1, h2], h3⟩
theorem law_of {f : FuncId} {args : List CT} (h : Sp Tryz.prog tabW f args (lb true)) {w : World} {vs : List Value} (hT : Tab w) (hv : all2 (CT.sem (fun b => b < w.heap.size) w G0) args vs) : Calls Tryz.prog f vs.toArray w (RetV w (.bool true)) :=
  -- the table: 1
  (h (fun b => b < w.heap.size) w vs ⟨hT, hT.lt⟩ (fun _ h => h) hv).mono fun e w' ⟨v, h1, h2, h3⟩ => by
    have h2 : [v] = [.bool true] := h2
    injection h2 with h2
    exact ⟨by rw [h1, h2], h3⟩
/-- an integer that came in, opened -/
theorem open_int' {N : Nat → Prop} {w : World} {s : Bool} {A : Option Addr} {n c : Nat} {z : Int} (h : AInt w s A n c z) : ∃ ds, W32 ds ∧ ds.length = n ∧ z = sgn s (val ds) ∧ semL N w G0 (dsl s ds) [.bool s, .slice A n c] := by
  obtain ⟨ds, h1, h2, h3, h4, h5⟩ := h
  have hl : ds.length = n := h1.1
  subst hl
  exact ⟨ds, h2, rfl, h5, [.bool s], [.slice A ds.length c], rfl, rfl, semL_one' ⟨A, c, rfl, h1, h3, h4⟩⟩
theorem lim_val (ds : List Nat) (h : W32 ds) (s : Bool) : Lim ds.length (sgn s (val ds)) := by
  unfold Lim
  rw [sgn_natAbs]
  exact val_lt h
end
end Go.Proofs.YtociocengfjioaaGreatDoor

/- Fractions: negation, rounding, sums, of the program and of the reference; arithmetic of the reference. -/
namespace Go.Proofs.YtociocengfjioaaGreatDoor
open Go Go.RowKit
set_option linter.unusedVariables false
set_option linter.unusedSimpArgs false

section
variable {I : WInv} {n d n' d' : Int} {k k' : Nat} {x y : List It} {q1 q2 q3 q4 : IntP} {P : Program}
theorem negq_sp (h1 : Fk q1 q2 n d k) : Sp Tryz.prog I 16 [fr q1 q2] (tfr (-Rat.divInt n d)) := by
  have e : Rat.divInt (-(pn n d)) (pd d) = -Rat.divInt n d := by rw [← Rat.neg_divInt, pn_pd]
  have l := (pn_lim h1.ln d).neg
  have hk := h1.k1
  rw [← e]
  exact sp_run (nt := 14) 1000 [po (parts_sp h1.a h1.b h1.big.1 h1.big.2), po (neg_sp (num_iy (pn n d))), po (reduce_sp (ny l (by omega)) (num_iy (pd d)) (l.mono (by omega)) ((pd_lim h1.ld h1.k0).mono (by omega)) (pd_ne d))] (by kernel_rfl)
theorem absq_sp (h1 : Fk q1 q2 n d k) : Sp Tryz.prog I 18 [fr q1 q2] (tfr (Rat.divInt ((pn n d).natAbs : Int) (pd d))) := by
  have l := (pn_lim h1.ln d).abs
  have hk := h1.k1
  exact sp_run (nt := 14) 1000 [po (parts_sp h1.a h1.b h1.big.1 h1.big.2), po (abs_sp (num_iy (pn n d))), po (reduce_sp (ny l (by omega)) (num_iy (pd d)) (l.mono (by omega)) ((pd_lim h1.ld h1.k0).mono (by omega)) (pd_ne d))] (by kernel_rfl)
/-! ### the reference -/
theorem rneg_frac (h1 : Fk q1 q2 n d k) : Sp Tryz.prog I 17 [fr q1 q2] (tfr (-Rat.divInt n d)) := by
  have l := h1.ln.neg
  have hk := h1.k1
  rw [Rat.neg_divInt]
  exact sp_run (nt := 10) 1000 [po (rneg_sp h1.a), po (rreduce_any (ny l (by omega)) h1.b (l.mono (by omega)) h1.big.2)] (by kernel_rfl)
theorem lim_q (h1 : Fk q1 q2 n d k) : Lim k (Rat.divInt n d).num ∧ Lim k ((Rat.divInt n d).den : Int) := ⟨lim_num h1.ln, lim_den h1.ld h1.k0⟩
theorem radd_frac (h1 : Fk q1 q2 n d k) (h2 : Fk q3 q4 n' d' k') (hk : k + k' ≤ 262144) : Sp Tryz.prog I 21 [fr q1 q2, fr q3 q4] (tfr (Rat.divInt n d + Rat.divInt n' d')) := by
  have c1 := rreduce_any (I := I) h1.a h1.b h1.big.1 h1.big.2
  have c2 := rreduce_any (I := I) h2.a h2.b h2.big.1 h2.big.2
  obtain ⟨l1, l2⟩ := lim_q h1
  obtain ⟨l3, l4⟩ := lim_q h2
  generalize Rat.divInt n d = a at *
  generalize Rat.divInt n' d' = b at *
  have hl1 := l1.mul l4
  have hl2 := l3.mul l2
  have hl3 := l2.mul l4
  have hl : Lim (k + k' + 1) (a.num * b.den + b.num * a.den) := hl1.add (hl2.mono (by omega))
  have e := rat_add (a := a.num) (b := a.den) (c := b.num) (d := b.den) (by have := den_pos' a; omega) (by have := den_pos' b; omega)
  rw [rat_self, rat_self] at e
  rw [← e]
  exact sp_run (nt := 27) 1000 [po c1, po c2, po (rmul_sp (ny l1 (by omega)) (ny l4 (by omega))), po (rmul_sp (ny l3 (by omega)) (ny l2 (by omega))), po (radd_sp (ny hl1 (by omega)) (ny hl2 (by omega))), po (rmul_sp (ny l2 (by omega)) (ny l4 (by omega))), po (rreduce_any (ny hl (by omega)) (ny hl3 (by omega)) (hl.mono (by omega)) (hl3.mono (by omega)))] (by kernel_rfl)
theorem fk_neg (h2 : Fk q3 q4 n' d' k') : Fk (cP (-Rat.divInt n' d').num) (cP ((-Rat.divInt n' d').den : Int)) (-Rat.divInt n' d').num (-Rat.divInt n' d').den k' := by
  obtain ⟨l3, l4⟩ := lim_q h2
  exact fk_rat (q := -Rat.divInt n' d') (by rw [Rat.neg_num]; exact l3.neg) (by rw [Rat.neg_den]; exact l4) h2.k0 h2.k1
theorem rsub_frac (h1 : Fk q1 q2 n d k) (h2 : Fk q3 q4 n' d' k') (hk : k + k' ≤ 262144) : Sp Tryz.prog I 23 [fr q1 q2, fr q3 q4] (tfr (Rat.divInt n d - Rat.divInt n' d')) := by
  have h := radd_frac (I := I) h1 (fk_neg h2) hk
  rw [rat_self] at h
  rw [Rat.sub_eq_add_neg]
  exact sp_run (nt := 9) 1000 [po (rneg_frac h2), po h] (by kernel_rfl)
theorem rmul_frac (h1 : Fk q1 q2 n d k) (h2 : Fk q3 q4 n' d' k') (hk : k + k' ≤ 262144) : Sp Tryz.prog I 25 [fr q1 q2, fr q3 q4] (tfr (Rat.divInt n d * Rat.divInt n' d')) := by
  have hl1 := h1.ln.mul h2.ln
  have hl2 := h1.ld.mul h2.ld
  rw [← rat_mul]
  exact sp_run (nt := 17) 1000 [po (rmul_sp h1.a h2.a), po (rmul_sp h1.b h2.b), po (rreduce_any (ny hl1 (by omega)) (ny hl2 (by omega)) (hl1.mono (by omega)) (hl2.mono (by omega)))] (by kernel_rfl)
theorem rcmp_frac (c : Int) (h1 : Fk q1 q2 n d k) (h2 : Fk q3 q4 n' d' k') (hk : k + k' ≤ 262144) (hc : cmpq (Rat.divInt n d) (Rat.divInt n' d') = c) : Sp Tryz.prog I 12 [fr q1 q2, fr q3 q4] (li c) := by
  have c1 := rreduce_any (I := I) h1.a h1.b h1.big.1 h1.big.2
  have c2 := rreduce_any (I := I) h2.a h2.b h2.big.1 h2.big.2
  obtain ⟨l1, l2⟩ := lim_q h1
  obtain ⟨l3, l4⟩ := lim_q h2
  generalize Rat.divInt n d = a at *
  generalize Rat.divInt n' d' = b at *
  have hl1 := l1.mul l4
  have hl2 := l3.mul l2
  have e := cmpz_rat (a := a.num) (b := a.den) (c := b.num) (d := b.den) (den_pos' a) (den_pos' b)
  rw [rat_self, rat_self, hc] at e
  exact sp_run (nt := 20) 1000 [po c1, po c2, po (rmul_sp (ny l1 (by omega)) (ny l4 (by omega))), po (rmul_sp (ny l3 (by omega)) (ny l2 (by omega))), po (rcmp_sp c (ny hl1 (by omega)) (ny hl2 (by omega)) e)] (by kernel_rfl)
theorem rsign_frac (c : Int) (h1 : Fk q1 q2 n d k) (hc : (Rat.divInt n d).num.sign = c) : Sp Tryz.prog I 14 [fr q1 q2] (li c) := by
  have hk := h1.k1
  exact sp_run (nt := 7) 1000 [po (rreduce_any h1.a h1.b h1.big.1 h1.big.2), po (rsign_sp c (ny (lim_q h1).1 (by omega)) hc)] (by kernel_rfl)

/-! ### floor -/
def flq (q : Rat) : Int := q.num.fdiv q.den
theorem floor_div {n d : Int} (hd : 0 < d) : n.fdiv d = flq (Rat.divInt n d) := by
  unfold flq
  rw [rat_num_pos hd, rat_den_pos hd]
  have hg : 0 < ((Nat.gcd n.natAbs d.natAbs : Nat) : Int) := by have := gcd_ne (n := n) (d := d) (by omega); omega
  have d1 : ((Nat.gcd n.natAbs d.natAbs : Nat) : Int) ∣ n := Int.gcd_dvd_left (a := n) (b := d)
  have d2 : ((Nat.gcd n.natAbs d.natAbs : Nat) : Int) ∣ d := Int.gcd_dvd_right (a := n) (b := d)
  generalize ((Nat.gcd n.natAbs d.natAbs : Nat) : Int) = g at *
  obtain ⟨a, rfl⟩ := d1
  obtain ⟨b, rfl⟩ := d2
  have hb : 0 < b := by
    rcases Int.lt_or_le 0 b with h | h
    · exact h
    · have := Int.mul_nonpos_of_nonneg_of_nonpos (Int.le_of_lt hg) h; omega
  rw [Int.fdiv_eq_ediv_of_nonneg _ (Int.le_of_lt hg), Int.fdiv_eq_ediv_of_nonneg _ (Int.le_of_lt hg), Int.mul_ediv_cancel_left _ (by omega), Int.mul_ediv_cancel_left _ (by omega), Int.fdiv_eq_ediv_of_nonneg _ (by omega), Int.fdiv_eq_ediv_of_nonneg _ (by omega), Int.mul_ediv_mul_of_pos _ _ hg]
theorem flq_lim {q : Rat} {k : Nat} (h : Lim k q.num) : Lim k (flq q) := lim_fdiv h (den_pos' q)
theorem floorq_sp (h1 : Fk q1 q2 n d k) : Sp Tryz.prog I 100 [fr q1 q2] (tic (flq (Rat.divInt n d))) := by
  have e := floor_div (n := pn n d) (pd_pos d)
  rw [pn_pd] at e
  rw [← e]
  exact sp_run (nt := 21) 1000 [po (parts_sp h1.a h1.b h1.big.1 h1.big.2), po (dm_sp (num_iy (pn n d)) (num_iy (pd d)) (pd_ne d))] (by kernel_rfl)
theorem rfloor_frac (h1 : Fk q1 q2 n d k) : Sp Tryz.prog I 102 [fr q1 q2] (tic (flq (Rat.divInt n d))) := by
  obtain ⟨l1, l2⟩ := lim_q h1
  have hk := h1.k1
  have hd := den_pos' (Rat.divInt n d)
  exact sp_run (nt := 18) 1000 [po (rreduce_any h1.a h1.b h1.big.1 h1.big.2), po (rdm_sp (ny l1 (by omega)) (ny l2 (by omega)) (by omega))] (by kernel_rfl)
def clq (q : Rat) : Int := -flq (-q)
theorem clq_lim {q : Rat} {k : Nat} (h : Lim k q.num) : Lim k (clq q) := by
  unfold clq
  exact (flq_lim (q := -q) (by rw [Rat.neg_num]; exact h.neg)).neg
theorem ceilq_sp (h1 : Fk q1 q2 n d k) : Sp Tryz.prog I 98 [fr q1 q2] (tic (clq (Rat.divInt n d))) := by
  have e := floor_div (n := -(pn n d)) (pd_pos d)
  have e1 : Rat.divInt (-(pn n d)) (pd d) = -Rat.divInt n d := by rw [← Rat.neg_divInt, pn_pd]
  rw [e1] at e
  have l := (pn_lim h1.ln d).neg
  have hk := h1.k1
  have lq : Lim k ((-(pn n d)).fdiv (pd d)) := lim_fdiv l (pd_pos d)
  unfold clq
  rw [← e]
  exact sp_run (nt := 23) 1000 [po (parts_sp h1.a h1.b h1.big.1 h1.big.2), po (neg_sp (num_iy (pn n d))), po (dm_sp (ny l (by omega)) (num_iy (pd d)) (pd_ne d)), po (neg_sp (ny lq (by omega)))] (by kernel_rfl)
/-! ### rounding -/
theorem u32_and1 (t : TypeId) (x : Nat) (h : x < 4294967296) : OpOb P (.bin .and t) [tlit (.int .u32 x), tlit (.int .u32 1)] (tlit (.int .u32 ((x % 2 : Nat) : Int))) := op_lit (vs := [.int .u32 x, .int .u32 1]) fun w => by
  have e : IntKind.u32.wrap (((BitVec.ofInt 32 (x : Int) &&& BitVec.ofInt 32 1).toNat : Nat) : Int) = ((x % 2 : Nat) : Int) := by
    have h1 : (BitVec.ofInt 32 (x : Int)).toNat = x := by
      rw [BitVec.toNat_ofInt]; omega
    have h2 : (BitVec.ofInt 32 1).toNat = 1 := rfl
    rw [BitVec.toNat_and, h1, h2, Nat.and_one_is_mod]
    exact IntWalk.u32_in _ ⟨by omega, by omega⟩
  simp only [OpK.run, binOp, Op.intBits]
  have hg : (eqGuard .and t (.tmp 0) (.tmp 1) (.int .u32 x) (.int .u32 1)).run P w = .ok () w := by simp [eqGuard]
  rw [Sem.run_bind, hg]
  simp only [Result.andThen_ok]
  show Result.ok (Value.int .u32 (IntKind.u32.wrap (((BitVec.ofInt 32 (x : Int) &&& BitVec.ofInt 32 1).toNat : Nat) : Int))) w = _
  rw [e]
theorem u32_eql (t : TypeId) (x y : Int) (b : Bool) (h : decide (x = y) = b) : OpOb P (.bin .eql t) [tlit (.int .u32 x), tlit (.int .u32 y)] (lb b) := op_lit (vs := [.int .u32 x, .int .u32 y]) fun w => by subst h; simp [OpK.run, eqGuard, binOp, Op.intCmp]; rfl
theorem digits_head {z : Int} (h : z ≠ 0) : ∃ d0, (digits z.natAbs)[0]? = some d0 ∧ d0 < 4294967296 ∧ d0 % 2 = z.natAbs % 2 := by
  have h1 := digits_len1 h
  have hw := digits_w32 z.natAbs
  have hv := val_digits z.natAbs
  match hd : digits z.natAbs, h1 with
  | [], h1 => exact absurd rfl h1
  | e :: es, _ =>
    rw [hd] at hv hw
    rw [val_cons] at hv
    have := hw e (by simp)
    exact ⟨e, rfl, this, by omega⟩
/-- n / d, rounded to the nearest integer, of two to the even one -/
def rndz (n d : Int) : Int := if 2 * n.fmod d < d then n.fdiv d else if 2 * n.fmod d = d ∧ (n.fdiv d).natAbs % 2 = 0 then n.fdiv d else n.fdiv d + 1
theorem dm_o (s : Bool) {a b : Int} (hx : Num x a) (hy : Num y b) (hb : b ≠ 0) (hs : decide (a.fdiv b < 0) = s) : Sp Tryz.prog I 86 [.ag x, .ag y] (.tu [.ag (dz s (a.fdiv b)), .ag (ic (a.fmod b)), ci 0]) :=
  (dm_sp hx hy hb).res fun N w v ⟨vs, e, u, l, e1, h1, h2⟩ => ⟨vs, e, u, l, e1, ic_dz hs h1, h2⟩
theorem rquot_sp (h1 : Num (ip q1) n) (h2 : Num (ip q2) d) (l1 : Lim 262144 n) (l2 : Lim 262144 d) (hd : 0 < d) : Sp Tryz.prog I 60 [.ag (ip q1), .ag (ip q2)] (tic (rndz n d)) := by
  obtain ⟨s, hs⟩ : ∃ s, decide (n.fdiv d < 0) = s := ⟨_, rfl⟩
  have lq : Lim 262144 (n.fdiv d) := lim_fdiv l1 hd
  have lr : Lim 262144 (n.fmod d) := l2.fmod (by omega)
  have lr2 : Lim 262145 (n.fmod d + n.fmod d) := lr.add lr
  have dm := dm_o (I := I) s h1 h2 (by omega) hs
  have ad := add_sp (I := I) (ny lr (by omega)) (ny lr (by omega))
  have nq := num_dz hs lq (by omega)
  have fin : ∀ {r : Int}, r = n.fdiv d + 1 → Sp Tryz.prog I 52 [.ag (dz s (n.fdiv d)), .ag (ic 1)] (tic r) := by
    rintro r rfl
    exact add_sp nq (ny (lim_one (by omega) : Lim 1 1) (by omega))
  have i1 := i64_sp (I := I) 1 (by omega) (by omega)
  rcases Int.lt_trichotomy (n.fmod d + n.fmod d) d with h | h | h
  · have e : rndz n d = n.fdiv d := by unfold rndz; rw [if_pos (by omega)]
    rw [e]
    refine Sp.res (res := .cv (.ag (dz s (n.fdiv d)))) ?_ fun N w v => dz_ic hs
    exact sp_run (nt := 41) 1000 [po dm, po ad, po (cmp_sp (-1) (ny lr2 (by omega)) h2 (cmpz_lt h))] (by kernel_rfl)
  · by_cases h0 : n.fdiv d = 0
    · have e : rndz n d = n.fdiv d := by unfold rndz; rw [if_neg (by omega), if_pos ⟨by omega, by rw [h0]; rfl⟩]
      rw [e]
      refine Sp.res (res := .cv (.ag (dz s (n.fdiv d)))) ?_ fun N w v => dz_ic hs
      exact sp_run (nt := 41) 1000 [po dm, po ad, po (cmp_sp 0 (ny lr2 (by omega)) h2 (cmpz_eq h)), pk (ds_len 22 86 3 (digits (n.fdiv d).natAbs) Tryz.underlying22), pk (b_eql 3 (((digits (n.fdiv d).natAbs).length : Nat) : Int) 0 true (decide_eq_true (digits_len0 h0)))] (by kernel_rfl)
    · obtain ⟨d0, e1, e2, e3⟩ := digits_head h0
      have common : ∀ (b : Bool), decide (((d0 % 2 : Nat) : Int) = 0) = b → OpOb Tryz.prog (.bin .eql 86) [tlit (.int .u32 ((d0 % 2 : Nat) : Int)), tlit (.int .u32 0)] (lb b) := fun b hb => u32_eql 86 _ 0 b hb
      by_cases hev : (n.fdiv d).natAbs % 2 = 0
      · have e : rndz n d = n.fdiv d := by unfold rndz; rw [if_neg (by omega), if_pos ⟨by omega, hev⟩]
        rw [e]
        refine Sp.res (res := .cv (.ag (dz s (n.fdiv d)))) ?_ fun N w v => dz_ic hs
        exact sp_run (nt := 41) 1000 [po dm, po ad, po (cmp_sp 0 (ny lr2 (by omega)) h2 (cmpz_eq h)), pk (ds_len 22 86 3 (digits (n.fdiv d).natAbs) Tryz.underlying22), pk (b_eql 3 (((digits (n.fdiv d).natAbs).length : Nat) : Int) 0 false (decide_eq_false (digits_len1 h0))), pk (ds_idx 22 86 (digits (n.fdiv d).natAbs) 0 0 d0 Tryz.underlying22 (by kernel_rfl) rfl e1), pk (pu_load 86 d0 (by kernel_rfl)), pk (u32_and1 86 d0 e2), pk (common true (decide_eq_true (by omega)))] (by kernel_rfl)
      · have e : rndz n d = n.fdiv d + 1 := by unfold rndz; rw [if_neg (by omega), if_neg (fun hh => hev hh.2)]
        exact sp_run (nt := 41) 1000 [po dm, po ad, po (cmp_sp 0 (ny lr2 (by omega)) h2 (cmpz_eq h)), pk (ds_len 22 86 3 (digits (n.fdiv d).natAbs) Tryz.underlying22), pk (b_eql 3 (((digits (n.fdiv d).natAbs).length : Nat) : Int) 0 false (decide_eq_false (digits_len1 h0))), pk (ds_idx 22 86 (digits (n.fdiv d).natAbs) 0 0 d0 Tryz.underlying22 (by kernel_rfl) rfl e1), pk (pu_load 86 d0 (by kernel_rfl)), pk (u32_and1 86 d0 e2), pk (common false (decide_eq_false (by omega))), po i1, po (fin e)] (by kernel_rfl)
  · have e : rndz n d = n.fdiv d + 1 := by unfold rndz; rw [if_neg (by omega), if_neg (fun hh => by have := hh.1; omega)]
    exact sp_run (nt := 41) 1000 [po dm, po ad, po (cmp_sp 1 (ny lr2 (by omega)) h2 (cmpz_gt h)), po i1, po (fin e)] (by kernel_rfl)
end
end Go.Proofs.YtociocengfjioaaGreatDoor

/- Fractions: rounding of the reference; Light. -/
namespace Go.Proofs.YtociocengfjioaaGreatDoor
open Go Go.RowKit
set_option linter.unusedVariables false
set_option linter.unusedSimpArgs false

section
variable {I : WInv} {f : FuncId} {res : TV} {a b : Int} {x y : List It}
theorem Sp.i1 (h : Sp Tryz.prog I f [.ag (ip (iy a))] res) (hx : Num x a) : Sp Tryz.prog I f [.ag x] res :=
  h.sub fun N w vs ⟨v, l, e, h1, h2⟩ => ⟨v, l, e, iy_of hx h1, h2⟩
theorem Sp.i2 (h : Sp Tryz.prog I f [.ag (ip (iy a)), .ag (ip (iy b))] res) (hx : Num x a) (hy : Num y b) : Sp Tryz.prog I f [.ag x, .ag y] res :=
  h.sub fun N w vs ⟨v, l, e, h1, v2, l2, e2, h2, h3⟩ => ⟨v, l, e, iy_of hx h1, v2, l2, e2, iy_of hy h2, h3⟩
end
theorem r64_of {k : Int} (h : (Lit.int .i64 k).wf = true) : R64 k := by
  have := int_bounds h
  exact ⟨by omega, by omega⟩
/-- the fraction q has at most k digits -/
structure Lq (q : Rat) (k : Nat) : Prop where
  n : Lim k q.num
  d : Lim k (q.den : Int)
  k0 : 0 < k
theorem Lq.fk {q : Rat} {k : Nat} (h : Lq q k) (hk : k ≤ 262144) : Fk (cP q.num) (cP (q.den : Int)) q.num q.den k := fk_rat h.n h.d h.k0 hk
theorem Lq.mono {q : Rat} {k j : Nat} (h : Lq q k) (hk : k ≤ j) : Lq q j := ⟨h.n.mono hk, h.d.mono hk, by have := h.k0; omega⟩
theorem Fk.lq {q1 q2 : IntP} {n d : Int} {k : Nat} (h : Fk q1 q2 n d k) : Lq (Rat.divInt n d) k := ⟨(lim_q h).1, (lim_q h).2, h.k0⟩
theorem Lq.add {p q : Rat} {k j : Nat} (h : Lq p k) (h' : Lq q j) : Lq (p + q) (k + j + 1) := by
  have e := rat_add (a := p.num) (b := p.den) (c := q.num) (d := q.den) (by have := den_pos' p; omega) (by have := den_pos' q; omega)
  rw [rat_self, rat_self] at e
  rw [← e]
  exact ⟨lim_num ((h.n.mul h'.d).add ((h'.n.mul h.d).mono (by omega))), lim_den ((h.d.mul h'.d).mono (by omega)) (by omega), by omega⟩
theorem Lq.neg {p : Rat} {k : Nat} (h : Lq p k) : Lq (-p) k := ⟨by rw [Rat.neg_num]; exact h.n.neg, by rw [Rat.neg_den]; exact h.d, h.k0⟩
theorem Lq.sub {p q : Rat} {k j : Nat} (h : Lq p k) (h' : Lq q j) : Lq (p - q) (k + j + 1) := by rw [Rat.sub_eq_add_neg]; exact h.add h'.neg
theorem Lq.mul {p q : Rat} {k j : Nat} (h : Lq p k) (h' : Lq q j) : Lq (p * q) (k + j) := by
  have e := rat_mul p.num p.den q.num q.den
  rw [rat_self, rat_self] at e
  rw [← e]
  have := h.k0
  exact ⟨lim_num (h.n.mul h'.n), lim_den (h.d.mul h'.d) (by omega), by omega⟩
theorem Lq.int {z : Int} {k : Nat} (h : Lim k z) (k0 : 0 < k) : Lq (z : Rat) k := ⟨h, lim_one k0, k0⟩
/-- rounding depends on the quotient alone -/
def rndq (q : Rat) : Int := rndz q.num q.den
theorem rndz_rat {n d : Int} (hd : 0 < d) : rndz n d = rndq (Rat.divInt n d) := by
  unfold rndq
  rw [rat_num_pos hd, rat_den_pos hd]
  have hg : 0 < ((Nat.gcd n.natAbs d.natAbs : Nat) : Int) := by have := gcd_ne (n := n) (d := d) (by omega); omega
  have d1 : ((Nat.gcd n.natAbs d.natAbs : Nat) : Int) ∣ n := Int.gcd_dvd_left (a := n) (b := d)
  have d2 : ((Nat.gcd n.natAbs d.natAbs : Nat) : Int) ∣ d := Int.gcd_dvd_right (a := n) (b := d)
  generalize ((Nat.gcd n.natAbs d.natAbs : Nat) : Int) = g at *
  obtain ⟨a, rfl⟩ := d1
  obtain ⟨b, rfl⟩ := d2
  have hb : 0 < b := by
    rcases Int.lt_or_le 0 b with h | h
    · exact h
    · have := Int.mul_nonpos_of_nonneg_of_nonpos (Int.le_of_lt hg) h; omega
  rw [Int.fdiv_eq_ediv_of_nonneg _ (Int.le_of_lt hg), Int.fdiv_eq_ediv_of_nonneg _ (Int.le_of_lt hg), Int.mul_ediv_cancel_left _ (by omega), Int.mul_ediv_cancel_left _ (by omega)]
  have e1 : (g * a).fdiv (g * b) = a.fdiv b := by rw [Int.fdiv_eq_ediv_of_nonneg _ (by omega), Int.fdiv_eq_ediv_of_nonneg _ (by omega), Int.mul_ediv_mul_of_pos _ _ hg]
  have e2 : (g * a).fmod (g * b) = g * a.fmod b := by rw [Int.fmod_eq_emod_of_nonneg _ (by omega), Int.fmod_eq_emod_of_nonneg _ (by omega), Int.mul_emod_mul_of_pos _ _ hg]
  unfold rndz
  rw [e1, e2]
  have e3 : 2 * (g * a.fmod b) < g * b ↔ 2 * a.fmod b < b := by
    rw [show 2 * (g * a.fmod b) = g * (2 * a.fmod b) by grind]
    exact Int.mul_lt_mul_left hg
  have e4 : 2 * (g * a.fmod b) = g * b ↔ 2 * a.fmod b = b := by
    rw [show 2 * (g * a.fmod b) = g * (2 * a.fmod b) by grind]
    exact Int.mul_eq_mul_left_iff (by omega)
  simp only [e3, e4]
theorem half_cmp (q : Rat) : cmpq ((q - (flq q : Int)) * ((2 : Int) : Rat)) ((1 : Int) : Rat) = cmpz (2 * q.num.fmod q.den) q.den := by
  have hd := den_pos' q
  have h1 : q.num = q.den * flq q + q.num.fmod q.den := by unfold flq; exact (Int.mul_fdiv_add_fmod q.num q.den).symm
  have e : (q - (flq q : Int)) * ((2 : Int) : Rat) = Rat.divInt (2 * q.num.fmod q.den) q.den := by
    have hq : q = Rat.divInt q.num q.den := (rat_self q).symm
    have hdr := rat_pos hd
    have hq' : q = ((q.num : Int) : Rat) / ((q.den : Int) : Rat) := by rw [← Rat.divInt_eq_div, rat_self]
    have e2 : q * ((q.den : Int) : Rat) = ((q.num : Int) : Rat) := (congrArg (· * ((q.den : Int) : Rat)) hq').trans (Rat.div_mul_cancel (Rat.ne_of_gt hdr))
    rw [Rat.divInt_eq_div]
    have e3 : ((2 * q.num.fmod q.den : Int) : Rat) = (q - (flq q : Int)) * ((2 : Int) : Rat) * ((q.den : Int) : Rat) := by
      have h2 : ((q.num : Int) : Rat) = ((q.den : Int) : Rat) * ((flq q : Int) : Rat) + ((q.num.fmod q.den : Int) : Rat) := by
        rw [← Rat.intCast_mul, ← Rat.intCast_add, ← h1]
      rw [Rat.intCast_mul]
      grind
    rw [e3, Rat.mul_div_cancel (Rat.ne_of_gt hdr)]
  rw [e, ← rat_one 1]
  have := cmpz_rat (a := 2 * q.num.fmod q.den) (b := q.den) (c := 1) (d := 1) hd (by omega)
  rw [← this, Int.mul_one, Int.one_mul]
section
variable {I : WInv} {n d : Int} {k : Nat} {q1 q2 : IntP}
theorem rround_frac (h1 : Fk q1 q2 n d k) (hk : k ≤ 65536) : Sp Tryz.prog I 63 [fr q1 q2] (tic (rndq (Rat.divInt n d))) := by
  have lq := h1.lq
  have hfl := rfloor_frac (I := I) h1
  have hsub := fun (z : Int) (hz : Lim k z) => rsub_frac (I := I) h1 ((Lq.int hz h1.k0).fk (by omega)) (by omega)
  generalize hq : Rat.divInt n d = q at *
  have hcmp := half_cmp q
  have ll : Lim k (flq q) := flq_lim lq.n
  have hs1 := hsub (flq q) ll
  have lz := Lq.int ll h1.k0
  have lsub := lq.sub lz
  have e1 : Rat.divInt ((flq q : Int) : Rat).num ((flq q : Int) : Rat).den = ((flq q : Int) : Rat) := rat_self _
  rw [e1] at hs1
  have l2 : Lq ((2 : Int) : Rat) 1 := Lq.int (by unfold Lim; decide) (by omega)
  have l1 : Lq ((1 : Int) : Rat) 1 := Lq.int (lim_one (by omega)) (by omega)
  have hmul := rmul_frac (I := I) (lsub.fk (by omega)) (l2.fk (by omega)) (by omega)
  rw [rat_self, rat_self] at hmul
  have lmul := lsub.mul l2
  have w2 := whole_sp (I := I) (a := 2) ⟨by omega, by omega⟩
  have w1 := whole_sp (I := I) (a := 1) ⟨by omega, by omega⟩
  obtain ⟨s, hs⟩ : ∃ s, decide (flq q < 0) = s := ⟨_, rfl⟩
  have hfl' : Sp Tryz.prog I 102 [fr q1 q2] (.cv (.ag (dz s (flq q)))) := hfl.res fun N w v => ic_dz hs
  have nz := num_dz hs ll (by omega)
  have hfi := (rfromInt_sp (I := I) (num_iy (flq q)) (ll.mono (by omega))).i1 nz
  have hcf := fun c hc => rcmp_frac (I := I) c (lmul.fk (by omega)) (l1.fk (by omega)) (by omega) hc
  rw [rat_self, rat_self] at hcf
  rw [hcmp] at hcf
  have fin : ∀ {r : Int}, r = flq q + 1 → Sp Tryz.prog I 53 [.ag (dz s (flq q)), .ag (ic 1)] (tic r) := by
    rintro r rfl
    exact radd_sp nz (ny (lim_one (by omega) : Lim 1 1) (by omega))
  have hfe : flq q = q.num.fdiv q.den := rfl
  have odd0 : flq q = 0 → OpOb Tryz.prog (.bin .gtr 3) [li (((digits (flq q).natAbs).length : Nat) : Int), li 0] (lb false) := fun h => b_gtr 3 _ 0 false (decide_eq_false (by rw [digits_len0 h]; omega))
  have odd1 : flq q ≠ 0 → OpOb Tryz.prog (.bin .gtr 3) [li (((digits (flq q).natAbs).length : Nat) : Int), li 0] (lb true) := fun h => b_gtr 3 _ 0 true (decide_eq_true (by have := digits_len1 h; omega))
  have dl := ds_len (P := Tryz.prog) 22 86 3 (digits (flq q).natAbs) Tryz.underlying22
  rcases Int.lt_trichotomy (2 * q.num.fmod q.den) q.den with h | h | h
  · have e : rndq q = flq q := by unfold rndq rndz; rw [if_pos h, hfe]
    rw [e]
    refine Sp.res (res := .cv (.ag (dz s (flq q)))) ?_ fun N w v => dz_ic hs
    have hc := hcf (-1) (cmpz_lt h)
    by_cases h0 : flq q = 0
    · exact sp_run (nt := 41) 1000 [po hfl', po hfi, po hs1, po w2, po hmul, po w1, po hc, pk dl, pk (odd0 h0)] (by kernel_rfl)
    · obtain ⟨d0, e1, e2, e3⟩ := digits_head h0
      obtain ⟨b, hb⟩ : ∃ b, decide (((d0 % 2 : Nat) : Int) = 1) = b := ⟨_, rfl⟩
      exact sp_run (nt := 41) 1000 [po hfl', po hfi, po hs1, po w2, po hmul, po w1, po hc, pk dl, pk (odd1 h0), pk (ds_idx 22 86 (digits (flq q).natAbs) 0 0 d0 Tryz.underlying22 (by kernel_rfl) rfl e1), pk (pu_load 86 d0 (by kernel_rfl)), pk (u32_and1 86 d0 e2), pk (u32_eql 86 ((d0 % 2 : Nat) : Int) 1 b hb)] (by kernel_rfl)
  · have hc := hcf 0 (cmpz_eq h)
    by_cases h0 : flq q = 0
    · have e : rndq q = flq q := by unfold rndq rndz; rw [if_neg (by omega), ← hfe, if_pos ⟨h, by rw [h0]; rfl⟩]
      rw [e]
      refine Sp.res (res := .cv (.ag (dz s (flq q)))) ?_ fun N w v => dz_ic hs
      exact sp_run (nt := 41) 1000 [po hfl', po hfi, po hs1, po w2, po hmul, po w1, po hc, pk dl, pk (odd0 h0)] (by kernel_rfl)
    · obtain ⟨d0, e1, e2, e3⟩ := digits_head h0
      by_cases hev : (flq q).natAbs % 2 = 0
      · have e : rndq q = flq q := by unfold rndq rndz; rw [if_neg (by omega), ← hfe, if_pos ⟨h, hev⟩]
        rw [e]
        refine Sp.res (res := .cv (.ag (dz s (flq q)))) ?_ fun N w v => dz_ic hs
        exact sp_run (nt := 41) 1000 [po hfl', po hfi, po hs1, po w2, po hmul, po w1, po hc, pk dl, pk (odd1 h0), pk (ds_idx 22 86 (digits (flq q).natAbs) 0 0 d0 Tryz.underlying22 (by kernel_rfl) rfl e1), pk (pu_load 86 d0 (by kernel_rfl)), pk (u32_and1 86 d0 e2), pk (u32_eql 86 ((d0 % 2 : Nat) : Int) 1 false (decide_eq_false (by omega)))] (by kernel_rfl)
      · have e : rndq q = flq q + 1 := by unfold rndq rndz; rw [if_neg (by omega), ← hfe, if_neg (fun hh => hev hh.2)]
        exact sp_run (nt := 41) 1000 [po hfl', po hfi, po hs1, po w2, po hmul, po w1, po hc, pk dl, pk (odd1 h0), pk (ds_idx 22 86 (digits (flq q).natAbs) 0 0 d0 Tryz.underlying22 (by kernel_rfl) rfl e1), pk (pu_load 86 d0 (by kernel_rfl)), pk (u32_and1 86 d0 e2), pk (u32_eql 86 ((d0 % 2 : Nat) : Int) 1 true (decide_eq_true (by omega))), po one_sp, po (fin e)] (by kernel_rfl)
  · have hc := hcf 1 (cmpz_gt h)
    have e : rndq q = flq q + 1 := by unfold rndq rndz; rw [if_neg (by omega), ← hfe, if_neg (fun hh => by have := hh.1; omega)]
    by_cases h0 : flq q = 0
    · exact sp_run (nt := 41) 1000 [po hfl', po hfi, po hs1, po w2, po hmul, po w1, po hc, pk dl, pk (odd0 h0), po one_sp, po (fin e)] (by kernel_rfl)
    · obtain ⟨d0, e1, e2, e3⟩ := digits_head h0
      obtain ⟨b, hb⟩ : ∃ b, decide (((d0 % 2 : Nat) : Int) = 1) = b := ⟨_, rfl⟩
      exact sp_run (nt := 41) 1000 [po hfl', po hfi, po hs1, po w2, po hmul, po w1, po hc, pk dl, pk (odd1 h0), pk (ds_idx 22 86 (digits (flq q).natAbs) 0 0 d0 Tryz.underlying22 (by kernel_rfl) rfl e1), pk (pu_load 86 d0 (by kernel_rfl)), pk (u32_and1 86 d0 e2), pk (u32_eql 86 ((d0 % 2 : Nat) : Int) 1 b hb), po one_sp, po (fin e)] (by kernel_rfl)
end

/-! ### Light of fractions -/
abbrev Fg := Dg × Dg
abbrev rowF (p : Fg) : List It0 := [.lit (.bool p.1.1), .it (DS p.1.2), .lit (.bool p.2.1), .it (DS p.2.2)]
abbrev rowsF (xs : List Fg) : List (List It0) := xs.map rowF
def okF (p : Fg) : Bool := decide (p.1.2.length ≤ 12) && decide (p.2.2.length ≤ 12)
def l2st (xs : List Fg) (i : Int) : St := ⟨[(0, tit (slI 4 (rowsF xs))), (2, lb false), (3, li i)], [], 50⟩
section
variable {I : WInv}
theorem light2_rounds (xs : List Fg) (hx : ∀ p ∈ xs, p.1.2.length ≤ 35184372087808 ∧ p.2.2.length ≤ 35184372087808) (hl : xs.length ≤ 35184372087808) (i : Nat) (hi : i < xs.length) :
    (okF xs[i] = true → Rnd Tryz.prog I 46 (loopC Tryz.prog 7 0) (l2st xs i) .normal (l2st xs ((i : Int) + 1))) ∧ (okF xs[i] = false → Rnd Tryz.prog I 46 (loopC Tryz.prog 7 0) (l2st xs i) .ret ⟨[(2, lb false)], [], 50⟩) := by
  have hl1 : (((rowsF xs).length : Nat) : Int) = (xs.length : Int) := by rw [List.length_map]
  have hp : xs[i]? = some xs[i] := List.getElem?_eq_getElem hi
  have hr : (rowsF xs)[i]? = some (rowF xs[i]) := by rw [List.getElem?_map, hp]; rfl
  have hb := hx xs[i] (List.getElem_mem hi)
  generalize xs[i] = p at *
  have hlens : lens [p.1, p.2] = p.1.2.length + p.2.2.length := by simp [lens]
  have o1 : OpOb Tryz.prog (.len #[43] 3) [tit (slI 4 (rowsF xs))] (li (((rowsF xs).length : Nat) : Int)) := sl_len 43 26 3 4 (rowsF xs) Tryz.underlying43
  have o2 : OpOb Tryz.prog (.bin .lss 3) [li (i : Int), li (((rowsF xs).length : Nat) : Int)] (lb true) := b_lss 3 (i : Int) (((rowsF xs).length : Nat) : Int) true (decide_eq_true (by rw [hl1]; omega))
  have o3 : OpOb Tryz.prog (.idxA 43) [tit (slI 4 (rowsF xs)), li (i : Int)] (.cv (.one (.fp (rowF p)))) := sl_idx 43 26 4 (rowsF xs) i i (rowF p) Tryz.underlying43 (by kernel_rfl) rfl hr
  have o4 : ∀ b, decide (lens [p.1, p.2] ≤ 60) = b → Sp Tryz.prog I 35 [.one (.b (.it (slI 2 (rowsI [p.1, p.2]))))] (lb b) := fun b hb' => light1_sp [p.1, p.2] (by omega) (by simp) b hb'
  have o5 := ds_len (P := Tryz.prog) 22 86 3 p.1.2 Tryz.underlying22
  have o6 := ds_len (P := Tryz.prog) 22 86 3 p.2.2 Tryz.underlying22
  have o7 : R64 ((i : Int) + 1) := ⟨by omega, by omega⟩
  by_cases h1 : p.1.2.length ≤ 12
  · by_cases h2 : p.2.2.length ≤ 12
    · refine ⟨fun _ => ?_, fun h => ?_⟩
      · exact rnd_run 1000 [pk o1, pk o2, pk o3, pk o3, pk (bs2_int p.1 p.2), po (o4 true (decide_eq_true (by omega))), pk o3, pk o5, pk (b_gtr 3 (p.1.2.length : Int) 12 false (decide_eq_false (by omega))), pk o3, pk o6, pk (b_gtr 3 (p.2.2.length : Int) 12 false (decide_eq_false (by omega))), pk (b_add 3 (i : Int) 1 o7)] (by kernel_rfl)
      · unfold okF at h; simp [h1, h2] at h
    · refine ⟨fun h => ?_, fun _ => ?_⟩
      · unfold okF at h; simp [h2] at h
      · by_cases h3 : lens [p.1, p.2] ≤ 60
        · exact rnd_run 1000 [pk o1, pk o2, pk o3, pk o3, pk (bs2_int p.1 p.2), po (o4 true (decide_eq_true h3)), pk o3, pk o5, pk (b_gtr 3 (p.1.2.length : Int) 12 false (decide_eq_false (by omega))), pk o3, pk o6, pk (b_gtr 3 (p.2.2.length : Int) 12 true (decide_eq_true (by omega)))] (by kernel_rfl)
        · exact rnd_run 1000 [pk o1, pk o2, pk o3, pk o3, pk (bs2_int p.1 p.2), po (o4 false (decide_eq_false h3))] (by kernel_rfl)
  · refine ⟨fun h => ?_, fun _ => ?_⟩
    · unfold okF at h; simp [h1] at h
    · by_cases h3 : lens [p.1, p.2] ≤ 60
      · exact rnd_run 1000 [pk o1, pk o2, pk o3, pk o3, pk (bs2_int p.1 p.2), po (o4 true (decide_eq_true h3)), pk o3, pk o5, pk (b_gtr 3 (p.1.2.length : Int) 12 true (decide_eq_true (by omega)))] (by kernel_rfl)
      · exact rnd_run 1000 [pk o1, pk o2, pk o3, pk o3, pk (bs2_int p.1 p.2), po (o4 false (decide_eq_false h3))] (by kernel_rfl)
theorem light2_sp (xs : List Fg) (hx : ∀ p ∈ xs, p.1.2.length ≤ 35184372087808 ∧ p.2.2.length ≤ 35184372087808) (hl : xs.length ≤ 35184372087808) (b : Bool) (hb : (xs.all okF && decide (xs.length < 20)) = b) : Sp Tryz.prog I 7 [.one (.b (.it (slI 4 (rowsF xs))))] (lb b) := by
  have hl1 : (((rowsF xs).length : Nat) : Int) = (xs.length : Int) := by rw [List.length_map]
  have o1 : OpOb Tryz.prog (.len #[43] 3) [tit (slI 4 (rowsF xs))] (li (((rowsF xs).length : Nat) : Int)) := sl_len 43 26 3 4 (rowsF xs) Tryz.underlying43
  by_cases hall : xs.all okF = true
  · have hloop : LoopTr Tryz.prog I 46 (loopC Tryz.prog 7 0) (l2st xs 0) (.exit 0) (l2st xs xs.length) := by
      refine loop_tr (ι := Nat) (by simp) (fun i => l2st xs i) (fun i => xs.length - i) (fun i => i ≤ xs.length) 0 (Nat.zero_le _) ?_
      intro i hi
      by_cases h : i < xs.length
      · left
        refine ⟨i + 1, h, by show xs.length - (i + 1) < xs.length - i; omega, ?_⟩
        have := (light2_rounds (I := I) xs hx hl i h).1 (List.all_eq_true.1 hall _ (List.getElem_mem h))
        show Rnd _ _ _ _ _ _ (l2st xs ((i + 1 : Nat) : Int))
        rw [show (((i + 1 : Nat)) : Int) = (i : Int) + 1 by omega]
        exact this
      · right
        have hi2 : i = xs.length := by omega
        subst hi2
        exact rnd_run 1000 [pk o1, pk (b_lss 3 (xs.length : Int) (((rowsF xs).length : Nat) : Int) false (decide_eq_false (by rw [hl1]; omega)))] (by kernel_rfl)
    exact sp_run (nt := 46) 1000 [pl hloop, pk o1, pk (b_lss 3 (((rowsF xs).length : Nat) : Int) 20 b (by rw [← hb, hall, hl1, Bool.true_and]; exact decide_eq_decide.2 (by omega)))] (by kernel_rfl)
  · have hb' : b = false := by rw [← hb]; simp [Bool.eq_false_iff.2 hall]
    subst hb'
    have hloop : LoopTr Tryz.prog I 46 (loopC Tryz.prog 7 0) (l2st xs 0) .ret ⟨[(2, lb false)], [], 50⟩ := by
      refine loop_tr (ι := Nat) (by simp) (fun i => l2st xs i) (fun i => xs.length - i) (fun i => i < xs.length ∧ (xs.drop i).all okF = false) 0 ?_ ?_
      · have hne : xs ≠ [] := by rintro rfl; exact hall rfl
        exact ⟨by have := List.length_pos_iff.2 hne; omega, by simpa using Bool.eq_false_iff.2 hall⟩
      · rintro i ⟨hi, hd⟩
        have e : xs.drop i = xs[i] :: xs.drop (i + 1) := List.drop_eq_getElem_cons hi
        rw [e, List.all_cons] at hd
        by_cases hok : okF xs[i] = true
        · left
          rw [hok, Bool.true_and] at hd
          have hlt : i + 1 < xs.length := by
            rcases Nat.lt_or_ge (i + 1) xs.length with h | h
            · exact h
            · rw [List.drop_of_length_le h] at hd; cases hd
          refine ⟨i + 1, ⟨hlt, hd⟩, by show xs.length - (i + 1) < xs.length - i; omega, ?_⟩
          show Rnd _ _ _ _ _ _ (l2st xs ((i + 1 : Nat) : Int))
          rw [show (((i + 1 : Nat)) : Int) = (i : Int) + 1 by omega]
          exact (light2_rounds (I := I) xs hx hl i hi).1 hok
        · right
          exact (light2_rounds (I := I) xs hx hl i hi).2 (Bool.eq_false_iff.2 hok)
    exact sp_run (nt := 46) 1000 [pl hloop] (by kernel_rfl)
end
end Go.Proofs.YtociocengfjioaaGreatDoor

/- Fractions: division; the kit of the laws. -/
namespace Go.Proofs.YtociocengfjioaaGreatDoor
open Go Go.RowKit
set_option linter.unusedVariables false
set_option linter.unusedSimpArgs false

theorem num_zero {q : Rat} : q.num.sign = 0 ↔ q = 0 := by rw [Int.sign_eq_zero_iff_zero, Rat.num_eq_zero]
theorem sign_cases {z : Int} (h : z.sign ≠ 0) : z.sign = 1 ∨ z.sign = -1 := by
  rcases Int.lt_trichotomy z 0 with h1 | h1 | h1
  · exact .inr (Int.sign_eq_neg_one_of_neg h1)
  · rw [h1] at h; exact absurd rfl h
  · exact .inl (Int.sign_eq_one_of_pos h1)
theorem pn_ne {n d : Int} (h : Rat.divInt n d ≠ 0) : pn n d ≠ 0 := by
  intro h0
  apply h
  rw [← pn_pd, h0, Rat.zero_divInt]
section
variable {I : WInv} {n d n' d' : Int} {k k' : Nat} {q1 q2 q3 q4 : IntP}
theorem divq_zero (h1 : Fk q1 q2 n d k) (h2 : Fk q3 q4 n' d' k') (h0 : Rat.divInt n' d' = 0) : Sp Tryz.prog I 9 [fr q1 q2, fr q3 q4] (.tu [frz, ci 11]) :=
  sp_run (nt := 63) 1000 [po (signq_sp 0 h2 (num_zero.2 h0))] (by kernel_rfl)
theorem divq_sp (h1 : Fk q1 q2 n d k) (h2 : Fk q3 q4 n' d' k') (hk : k + k' ≤ 262144) (h0 : Rat.divInt n' d' ≠ 0) : Sp Tryz.prog I 9 [fr q1 q2, fr q3 q4] (.tu [frc (Rat.divInt n d / Rat.divInt n' d'), ci 0]) := by
  have y1 := pd_pos d
  have y2 := pd_pos d'
  have hx := pn_ne h0
  have e := rat_div (pn n d) (pd d) (pn n' d') (pd d')
  rw [pn_pd, pn_pd] at e
  have hs0 : (Rat.divInt n' d').num.sign ≠ 0 := fun h => h0 (num_zero.1 h)
  refine two_fracs h1.a h1.b h2.a h2.b ?_ ?_
  · intro s1 s2 s3 s4
    have b1 := mul31 (pn31 s1 d) (pd31 s4)
    have b2 := mul31 (pd31 s2) (pn31 s3 d')
    have f2 : Fk (sP n') (sP d') n' d' k' := ⟨num_sP, num_sP, h2.ln, h2.ld, h2.k0, h2.k1⟩
    rw [← e]
    have go : ∀ c, (Rat.divInt n' d').num.sign = c → (c = 1 ∨ c = -1) → Sp Tryz.prog I 9 [fr (sP n) (sP d), fr (sP n') (sP d')] (.tu [frc (Rat.divInt (pn n d * pd d') (pd d * pn n' d')), ci 0]) := by
      intro c hc hcv
      have hsg := signq_sp (I := I) c f2 hc
      have m1 := b_mul (P := Tryz.prog) 2 (pn n d) (pd d') ⟨by omega, by omega⟩
      have m2 := b_mul (P := Tryz.prog) 2 (pd d) (pn n' d') ⟨by omega, by omega⟩
      by_cases hneg : pd d * pn n' d' < 0
      · rw [← rat_neg]
        have fw := fromWords_sp (I := I) (-(pn n d * pd d')) (-(pd d * pn n' d')) ⟨by omega, by omega⟩ ⟨by omega, by omega⟩
        rcases hcv with rfl | rfl
        · exact sp_run (nt := 63) 1000 [po hsg, po (small_yes s1 s2 s3 s4), pk m1, pk m2, pk (b_lss 2 (pd d * pn n' d') 0 true (decide_eq_true hneg)), pk (u_neg (pn n d * pd d') ⟨by omega, by omega⟩), pk (u_neg (pd d * pn n' d') ⟨by omega, by omega⟩), po fw] (by kernel_rfl)
        · exact sp_run (nt := 63) 1000 [po hsg, po (small_yes s1 s2 s3 s4), pk m1, pk m2, pk (b_lss 2 (pd d * pn n' d') 0 true (decide_eq_true hneg)), pk (u_neg (pn n d * pd d') ⟨by omega, by omega⟩), pk (u_neg (pd d * pn n' d') ⟨by omega, by omega⟩), po fw] (by kernel_rfl)
      · have hne : pd d * pn n' d' ≠ 0 := Int.mul_ne_zero (by omega) hx
        have fw := fromWords_sp (I := I) (pn n d * pd d') (pd d * pn n' d') ⟨by omega, by omega⟩ ⟨by omega, by omega⟩
        rcases hcv with rfl | rfl
        · exact sp_run (nt := 63) 1000 [po hsg, po (small_yes s1 s2 s3 s4), pk m1, pk m2, pk (b_lss 2 (pd d * pn n' d') 0 false (decide_eq_false hneg)), po fw] (by kernel_rfl)
        · exact sp_run (nt := 63) 1000 [po hsg, po (small_yes s1 s2 s3 s4), pk m1, pk m2, pk (b_lss 2 (pd d * pn n' d') 0 false (decide_eq_false hneg)), po fw] (by kernel_rfl)
    exact go _ rfl (sign_cases hs0)
  · intro p1 p2 p3 p4 m1 m2 m3 m4 hno
    have a1 := parts_sp (I := I) m1 m2 h1.big.1 h1.big.2
    have a2 := parts_sp (I := I) m3 m4 h2.big.1 h2.big.2
    have f2 : Fk p3 p4 n' d' k' := ⟨m3, m4, h2.ln, h2.ld, h2.k0, h2.k1⟩
    have hl1 := (pn_lim h1.ln d).mul (pd_lim h2.ld h2.k0)
    have hl2 := (pd_lim h1.ld h1.k0).mul (pn_lim h2.ln d')
    have hr := reduce_sp (I := I) (ny hl1 (by omega)) (ny hl2 (by omega)) (hl1.mono (by omega)) (hl2.mono (by omega)) (Int.mul_ne_zero (by omega) hx)
    rw [← e]
    rcases sign_cases hs0 with hc | hc
    · exact sp_run (nt := 63) 1000 [po (signq_sp 1 f2 hc), po hno, po a1, po a2, po (mul_sp (num_iy (pn n d)) (num_iy (pd d'))), po (mul_sp (num_iy (pd d)) (num_iy (pn n' d'))), po hr] (by kernel_rfl)
    · exact sp_run (nt := 63) 1000 [po (signq_sp (-1) f2 hc), po hno, po a1, po a2, po (mul_sp (num_iy (pn n d)) (num_iy (pd d'))), po (mul_sp (num_iy (pd d)) (num_iy (pn n' d'))), po hr] (by kernel_rfl)
end
/-! ### arguments of the laws -/
abbrev vn (p : Fg) : Int := sgn p.1.1 (val p.1.2)
abbrev vd (p : Fg) : Int := sgn p.2.1 (val p.2.2)
abbrev frl (p : Fg) : List It := dsl p.1.1 p.1.2 ++ dsl p.2.1 p.2.2
abbrev vq (p : Fg) : Rat := Rat.divInt (vn p) (vd p)
abbrev W2 (p : Fg) : Prop := W32 p.1.2 ∧ W32 p.2.2
abbrev tF (p : Fg) : TV := .cv (.ag (frl p))
theorem okF_len {p : Fg} (h : okF p = true) : p.1.2.length ≤ 12 ∧ p.2.2.length ≤ 12 := by unfold okF at h; simpa using h
theorem fk_arg {p : Fg} (h : okF p = true) (hw : W2 p) : Fk (iy (vn p)) (iy (vd p)) (vn p) (vd p) 12 :=
  fk_iy ((lim_val _ hw.1 _).mono (okF_len h).1) ((lim_val _ hw.2 _).mono (okF_len h).2) (by omega) (by omega)
theorem pr_arg {p : Fg} (h : okF p = true) (hw : W2 p) : Pr2 (frl p) (vn p) (vd p) := pr2_app (num_dsl hw.1 (by have := (okF_len h).1; omega)) (num_dsl hw.2 (by have := (okF_len h).2; omega))
theorem bs1_frac (p : Fg) : OpOb Tryz.prog (.bs 43 1 [0]) [tF p] (tit (slI 4 (rowsF [p]))) :=
  bs_ob (e := 26) (cts := [.ag (frl p)]) (z := [.bool false, .slice none 0 0, .bool false, .slice none 0 0]) (bytes := 64) (by kernel_rfl) (by decide) (by kernel_rfl) rfl rfl (by intro r hr; simp at hr; subst hr; rfl)
theorem bs2_frac (p q : Fg) : OpOb Tryz.prog (.bs 43 2 [0, 1]) [tF p, tF q] (tit (slI 4 (rowsF [p, q]))) :=
  bs_ob (e := 26) (cts := [.ag (frl p), .ag (frl q)]) (z := [.bool false, .slice none 0 0, .bool false, .slice none 0 0]) (bytes := 64) (by kernel_rfl) (by decide) (by kernel_rfl) rfl rfl (by intro r hr; simp at hr; rcases hr with rfl | rfl <;> rfl)
theorem bs3_frac (p q r : Fg) : OpOb Tryz.prog (.bs 43 3 [0, 1, 2]) [tF p, tF q, tF r] (tit (slI 4 (rowsF [p, q, r]))) :=
  bs_ob (e := 26) (cts := [.ag (frl p), .ag (frl q), .ag (frl r)]) (z := [.bool false, .slice none 0 0, .bool false, .slice none 0 0]) (bytes := 64) (by kernel_rfl) (by decide) (by kernel_rfl) rfl rfl (by intro r' hr; simp at hr; rcases hr with rfl | rfl | rfl <;> rfl)
/-- an argument is not beyond all memory -/
abbrev Mem (p : Fg) : Prop := p.1.2.length ≤ 35184372087808 ∧ p.2.2.length ≤ 35184372087808
/-- a fraction that came in -/
def AFrac (w : World) (v : Value) (p : Fg) : Prop := W2 p ∧ Mem p ∧ (CT.ag (frl p)).sem (fun b => b < w.heap.size) w G0 v
theorem aFrac_of {w : World} {s t : Bool} {A A' : Option Addr} {n c n' c' : Nat} {x y : Int} (ha : AInt w s A n c x) (hb : AInt w t A' n' c' y) (hn : n ≤ 35184372087808) (hn' : n' ≤ 35184372087808) : ∃ p, AFrac w (.agg #[.bool s, .slice A n c, .bool t, .slice A' n' c']) p := by
  obtain ⟨ds, h1, h2, _, h4⟩ := open_int' (N := fun b => b < w.heap.size) ha
  obtain ⟨es, g1, g2, _, g4⟩ := open_int' (N := fun b => b < w.heap.size) hb
  exact ⟨((s, ds), (t, es)), ⟨h1, g1⟩, ⟨by show ds.length ≤ _; omega, by show es.length ≤ _; omega⟩, _, rfl, semL_append h4 g4⟩
end Go.Proofs.YtociocengfjioaaGreatDoor

/- Sums of fractions, of the program and of the reference. -/
namespace Go.Proofs.YtociocengfjioaaGreatDoor
open Go Go.RowKit
set_option linter.unusedVariables false
set_option linter.unusedSimpArgs false

/-- the sum of a list -/
def sumq (xs : List Fg) : Rat := xs.foldl (fun s p => s + vq p) 0
theorem sumq_snoc (xs : List Fg) (p : Fg) : sumq (xs ++ [p]) = sumq xs + vq p := by unfold sumq; rw [List.foldl_append]; rfl
theorem fold_lq : ∀ (xs : List Fg) (s : Rat) (k : Nat), Lq s k → (∀ p ∈ xs, okF p = true ∧ W2 p) → Lq (xs.foldl (fun s p => s + vq p) s) (k + 13 * xs.length)
  | [], s, k, h, _ => h
  | p :: xs, s, k, h, hx => by
    have h2 := (fk_arg (hx p (by simp)).1 (hx p (by simp)).2).lq
    have := fold_lq xs (s + vq p) (k + 12 + 1) (h.add h2) (fun q hq => hx q (by simp [hq]))
    rw [List.foldl_cons]
    refine this.mono ?_
    rw [List.length_cons]
    omega
theorem sumq_lq (xs : List Fg) (h : ∀ p ∈ xs, okF p = true ∧ W2 p) : Lq (sumq xs) (13 * xs.length + 1) := by
  have := fold_lq xs 0 1 ⟨lim_zero 1, lim_one (by omega), by omega⟩ h
  exact this.mono (by omega)
theorem sumq_cons (s : Rat) : ∀ (xs : List Fg), xs.foldl (fun s p => s + vq p) s = s + sumq xs
  | [] => by show s = s + 0; rw [Rat.add_zero]
  | p :: xs => by
    unfold sumq
    rw [List.foldl_cons, List.foldl_cons, sumq_cons (s + vq p) xs, sumq_cons (0 + vq p) xs, Rat.zero_add, Rat.add_assoc]
theorem sumq_rev : ∀ (xs : List Fg), sumq xs.reverse = sumq xs
  | [] => rfl
  | p :: xs => by
    rw [List.reverse_cons, sumq_snoc, sumq_rev xs]
    have : sumq (p :: xs) = 0 + vq p + sumq xs := sumq_cons (0 + vq p) xs
    rw [this, Rat.zero_add, Rat.add_comm]
section
variable {I : WInv}
def smst (xs : List Fg) (s : Rat) (i : Int) : St := ⟨[(2, .cv (.one (.ptr 0 0))), (3, .cv (.one (.ptr 2 0))), (7, tit (slI 4 (rowsF xs))), (8, li (((rowsF xs).length : Nat) : Int)), (9, li i)], [(0, some ⟨26, none, litI ++ litI⟩), (2, some ⟨26, none, ip (cP s.num) ++ ip (cP (s.den : Int))⟩)], 50⟩
theorem pr_can {q : Rat} {k : Nat} (h : Lq q k) (hk : k ≤ 262144) : Pr2 (ip (cP q.num) ++ ip (cP (q.den : Int))) q.num q.den := pr2_app (num_ic h.n (by omega)) (num_ic h.d (by omega))
theorem qadd_step {xs : List Fg} (hx : ∀ p ∈ xs, okF p = true ∧ W2 p) (hl : xs.length < 20) (i : Nat) (hi : i < xs.length) : Sp Tryz.prog I 20 [frc (sumq (xs.take i)), .ag (frl xs[i])] (tfr (sumq (xs.take (i + 1)))) := by
  have hw := hx xs[i] (List.getElem_mem hi)
  have h1 := sumq_lq (xs.take i) (fun p hp => hx p (List.mem_of_mem_take hp))
  have hlen : (xs.take i).length = i := by rw [List.length_take]; omega
  rw [hlen] at h1
  have h := (addq_sp (I := I) (fk_iy h1.n h1.d h1.k0 (by omega)) (fk_arg hw.1 hw.2) (by omega)).f2 (pr_can h1 (by omega)) (pr_arg hw.1 hw.2)
  rw [rat_self] at h
  rw [List.take_succ_eq_append_getElem hi, sumq_snoc]
  exact h
theorem radd_step {xs : List Fg} (hx : ∀ p ∈ xs, okF p = true ∧ W2 p) (hl : xs.length < 20) (i : Nat) (hi : i < xs.length) : Sp Tryz.prog I 21 [frc (sumq (xs.take i)), .ag (frl xs[i])] (tfr (sumq (xs.take (i + 1)))) := by
  have hw := hx xs[i] (List.getElem_mem hi)
  have h1 := sumq_lq (xs.take i) (fun p hp => hx p (List.mem_of_mem_take hp))
  have hlen : (xs.take i).length = i := by rw [List.length_take]; omega
  rw [hlen] at h1
  have h := (radd_frac (I := I) (fk_iy h1.n h1.d h1.k0 (by omega)) (fk_arg hw.1 hw.2) (by omega)).f2 (pr_can h1 (by omega)) (pr_arg hw.1 hw.2)
  rw [rat_self] at h
  rw [List.take_succ_eq_append_getElem hi, sumq_snoc]
  exact h
def rmst (xs : List Fg) (s : Rat) (i : Int) : St := ⟨[(0, tit (slI 4 (rowsF xs))), (2, .cv (.one (.ptr 0 0))), (3, .cv (.one (.ptr 2 0))), (4, li i)], [(0, some ⟨26, none, litI ++ litI⟩), (2, some ⟨26, none, ip (cP s.num) ++ ip (cP (s.den : Int))⟩)], 50⟩
end
end Go.Proofs.YtociocengfjioaaGreatDoor

/- Strings as lists of bytes: contracts of the operations on strings. -/
namespace Go.Proofs.YtociocengfjioaaGreatDoor
open Go Go.RowKit
set_option linter.unusedVariables false
set_option linter.unusedSimpArgs false

abbrev tS (xs : List Nat) : TV := tlit (.string (strOf xs))
abbrev cS (xs : List Nat) : CT := .one (.b (.lit (.string (strOf xs))))
abbrev cu (x : Nat) : CT := .one (.b (.lit (.int .u8 (x : Int))))
/-- bytes -/
def B8 (xs : List Nat) : Prop := ∀ x ∈ xs, x < 256
theorem B8.app {xs ys : List Nat} (h : B8 xs) (h' : B8 ys) : B8 (xs ++ ys) := fun x hx => (List.mem_append.1 hx).elim (h x) (h' x)
theorem B8.take {xs : List Nat} (h : B8 xs) (n : Nat) : B8 (xs.take n) := fun x hx => h x (List.mem_of_mem_take hx)
theorem B8.drop {xs : List Nat} (h : B8 xs) (n : Nat) : B8 (xs.drop n) := fun x hx => h x (List.mem_of_mem_drop hx)
theorem B8.getD {xs : List Nat} (h : B8 xs) (i : Nat) : xs.getD i 0 < 256 := by
  rw [List.getD_eq_getElem?_getD]
  cases hx : xs[i]? with
  | none => simp
  | some x => exact h x (List.mem_of_getElem? hx)
theorem B8.bytes (s : ByteArray) : B8 (bytesOf s) := bytesOf_lt s
theorem B8.bo {xs : List Nat} (h : B8 xs) : bytesOf (strOf xs) = xs := bytesOf_strOf xs h
theorem strOf_data (xs : List Nat) : (strOf xs).data.toList = xs.map UInt8.ofNat := by simp [strOf]
theorem strOf_take (xs : List Nat) (n : Nat) : (strOf xs).extract 0 n = strOf (xs.take n) := by
  rw [Lib.extract_eq, strOf_data]
  simp [strOf, List.map_take]
theorem strOf_drop (xs : List Nat) (n : Nat) : (strOf xs).extract n xs.length = strOf (xs.drop n) := by
  rw [Lib.extract_eq, strOf_data]
  simp only [strOf, List.drop_zero, Nat.sub_zero, List.map_drop]
  rw [List.take_of_length_le (by simp)]
theorem ofNat8 {a b : Nat} (ha : a < 256) (hb : b < 256) : UInt8.ofNat a = UInt8.ofNat b ↔ a = b := by
  constructor
  · intro h
    have h := congrArg UInt8.toNat h
    simp only [UInt8.toNat_ofNat'] at h
    omega
  · intro h; rw [h]
theorem toNat8 {a : Nat} (ha : a < 256) : (UInt8.ofNat a).toNat = a := by simp only [UInt8.toNat_ofNat']; omega
theorem strOf_inj {xs ys : List Nat} (hx : B8 xs) (hy : B8 ys) : strOf xs = strOf ys ↔ xs = ys := by
  constructor
  · intro h
    have := congrArg bytesOf h
    rwa [hx.bo, hy.bo] at this
  · intro h; rw [h]
theorem toList_inj {a b : ByteArray} : a.toList = b.toList ↔ a = b := by
  constructor
  · intro h
    rw [ByteArray.toList_eq, ByteArray.toList_eq] at h
    exact ByteArray.ext (Array.ext' h)
  · intro h; rw [h]
/-- the first place of a byte -/
def idxL (c : Nat) : List Nat → Option Nat
  | [] => none
  | x :: l => if x = c then some 0 else (idxL c l).map (· + 1)
theorem idxL_some {c : Nat} : ∀ {xs : List Nat} {i : Nat}, idxL c xs = some i → i < xs.length ∧ xs.getD i 0 = c ∧ ∀ j, j < i → xs.getD j 0 ≠ c
  | [], i, h => by cases h
  | x :: l, i, h => by
    unfold idxL at h
    by_cases hx : x = c
    · rw [if_pos hx] at h
      injection h with h
      subst h
      exact ⟨by simp, by simpa using hx, fun j hj => by omega⟩
    · rw [if_neg hx] at h
      obtain ⟨k, hk, rfl⟩ := Option.map_eq_some_iff.1 h
      obtain ⟨h1, h2, h3⟩ := idxL_some hk
      refine ⟨by simp; omega, by simpa using h2, fun j hj => ?_⟩
      cases j with
      | zero => simpa using hx
      | succ j => simpa using h3 j (by omega)
theorem idxL_none {c : Nat} : ∀ {xs : List Nat}, idxL c xs = none → ∀ j, j < xs.length → xs.getD j 0 ≠ c
  | [], h, j, hj => by simp at hj
  | x :: l, h, j, hj => by
    unfold idxL at h
    by_cases hx : x = c
    · rw [if_pos hx] at h; cases h
    · rw [if_neg hx, Option.map_eq_none_iff] at h
      cases j with
      | zero => simpa using hx
      | succ j => simpa using idxL_none h j (by simpa using hj)
theorem idxL_app {c : Nat} : ∀ {xs ys : List Nat}, (∀ x ∈ xs, x ≠ c) → idxL c (xs ++ c :: ys) = some xs.length
  | [], ys, h => by simp [idxL]
  | x :: l, ys, h => by
    have hx := h x (by simp)
    rw [List.cons_append, idxL, if_neg hx, idxL_app fun y hy => h y (by simp [hy])]
    rfl
theorem idxL_no {c : Nat} : ∀ {xs : List Nat}, (∀ x ∈ xs, x ≠ c) → idxL c xs = none
  | [], h => rfl
  | x :: l, h => by
    rw [idxL, if_neg (h x (by simp)), idxL_no fun y hy => h y (by simp [hy])]
    rfl
theorem index_idxL {c : Nat} (hc : c < 256) : ∀ {xs : List Nat}, B8 xs → Lib.index (xs.map UInt8.ofNat) [UInt8.ofNat c] = match idxL c xs with | some i => (i : Int) | none => -1
  | [], h => rfl
  | x :: l, h => by
    have ih := index_idxL hc (xs := l) fun y hy => h y (by simp [hy])
    rw [Lib.index_one] at ih ⊢
    simp only [List.map_cons, Lib.indexByte]
    unfold idxL
    by_cases hx : x = c
    · subst hx; simp
    · have : (UInt8.ofNat x == UInt8.ofNat c) = false := by
        rw [beq_eq_false_iff_ne]
        exact fun h' => hx ((ofNat8 (h x (by simp)) hc).1 h')
      rw [this, if_neg hx]
      rw [ih]
      cases idxL c l with
      | none => simp
      | some i =>
        simp only [Option.map_some]
        have : ((i : Int) == -1) = false := by rw [beq_eq_false_iff_ne]; omega
        simp [this]
section
variable {P : Program}
theorem sx_len (t ty : TypeId) (xs : List Nat) (ht : P.underlying t = some .string := by kernel_rfl) : OpOb P (.len #[t] ty) [tS xs] (li xs.length) := op_lit (vs := [.string (strOf xs)]) fun w => by
  simp [OpK.run, Builtin.len_, underlying_run ht, goInt, strOf_size]
theorem sx_add (t : TypeId) (xs ys : List Nat) (h : xs.length + ys.length ≤ 9223372036854775807) : OpOb P (.bin .add t) [tS xs, tS ys] (tS (xs ++ ys)) := by
  have := s_add (P := P) t (strOf xs) (strOf ys) (by rw [strOf_size, strOf_size]; exact h)
  rw [← strOf_append] at this
  exact this
theorem sx_take (t : TypeId) (xs : List Nat) (n : Nat) (z : Int) (hz : z = (n : Int)) (hn : n ≤ xs.length) (ht : P.underlying t = some .string := by kernel_rfl) : OpOb P (.slc t false true false) [tS xs, li z] (tS (xs.take n)) := op_lit (vs := [.string (strOf xs), .int .i64 z]) fun w => by
  subst hz
  simp [OpK.run, Instr.sliceAt, Instr.slice, Instr.sliceBounds, Instr.sliceBound, asIntOf, underlying_run ht, strOf_size, hn, strOf_take]
theorem sx_drop (t : TypeId) (xs : List Nat) (n : Nat) (z : Int) (hz : z = (n : Int)) (hn : n ≤ xs.length) (ht : P.underlying t = some .string := by kernel_rfl) : OpOb P (.slc t true false false) [tS xs, li z] (tS (xs.drop n)) := op_lit (vs := [.string (strOf xs), .int .i64 z]) fun w => by
  subst hz
  simp [OpK.run, Instr.sliceAt, Instr.slice, Instr.sliceBounds, Instr.sliceBound, asIntOf, underlying_run ht, strOf_size, hn, strOf_drop]
theorem sx_idx (t : TypeId) (xs : List Nat) (i : Nat) (z : Int) (hz : z = (i : Int)) (hi : i < xs.length) (hx : B8 xs) (ht : P.underlying t = some .string := by kernel_rfl) : OpOb P (.idx t) [tS xs, li z] (tlit (.int .u8 ((xs.getD i 0 : Nat) : Int))) := op_lit (vs := [.string (strOf xs), .int .i64 z]) fun w => by
  subst hz
  have e : (strOf xs)[i]? = some (UInt8.ofNat (xs.getD i 0)) := by
    show (strOf xs).data[i]? = _
    rw [← Array.getElem?_toList, strOf_data, List.getElem?_map, List.getD_eq_getElem?_getD, List.getElem?_eq_getElem hi]
    rfl
  have hb := hx.getD i
  generalize xs.getD i 0 = a at *
  simp [OpK.run, Instr.index, asIntOf, underlying_run ht, e]
  omega
theorem sx_eql (t : TypeId) (xs ys : List Nat) (b : Bool) (h : decide (xs = ys) = b) (hx : B8 xs) (hy : B8 ys) : OpOb P (.bin .eql t) [tS xs, tS ys] (lb b) := s_eql t _ _ b (by
  subst h
  by_cases h : xs = ys
  · subst h; simp
  · rw [decide_eq_false h, beq_eq_false_iff_ne]
    exact fun h' => h ((strOf_inj hx hy).1 (toList_inj.1 h')))
theorem sx_neq (t : TypeId) (xs ys : List Nat) (b : Bool) (h : decide (xs = ys) = !b) (hx : B8 xs) (hy : B8 ys) : OpOb P (.bin .neq t) [tS xs, tS ys] (lb b) := s_neq t _ _ b (by
  rw [← h]
  by_cases h : xs = ys
  · subst h; simp
  · rw [decide_eq_false h, beq_eq_false_iff_ne]
    exact fun h' => h ((strOf_inj hx hy).1 (toList_inj.1 h')))
abbrev l8 (x : Int) : TV := tlit (.int .u8 x)
theorem b8_eql (t : TypeId) (x y : Int) (b : Bool) (h : decide (x = y) = b) : OpOb P (.bin .eql t) [l8 x, l8 y] (lb b) := op_lit (vs := [.int .u8 x, .int .u8 y]) fun w => by subst h; simp [OpK.run, eqGuard, binOp, Op.intCmp]; rfl
theorem b8_lss (t : TypeId) (x y : Int) (b : Bool) (h : decide (x < y) = b) : OpOb P (.bin .lss t) [l8 x, l8 y] (lb b) := op_lit (vs := [.int .u8 x, .int .u8 y]) fun w => by subst h; simp [OpK.run, eqGuard, binOp, Op.intCmp]
theorem b8_gtr (t : TypeId) (x y : Int) (b : Bool) (h : decide (y < x) = b) : OpOb P (.bin .gtr t) [l8 x, l8 y] (lb b) := op_lit (vs := [.int .u8 x, .int .u8 y]) fun w => by subst h; simp [OpK.run, eqGuard, binOp, Op.intCmp]
end
end Go.Proofs.YtociocengfjioaaGreatDoor

/- Strings: contracts of the functions that parse and print. -/
namespace Go.Proofs.YtociocengfjioaaGreatDoor
open Go Go.RowKit
set_option linter.unusedVariables false
set_option linter.unusedSimpArgs false

def fmtL (z : Int) : List Nat := decz (decide (z < 0)) z.natAbs
theorem retIE_sem {N : Nat → Prop} {w w' : World} {z code : Int} {e : Ending} (h : RetIE w z code e w') : ∃ v, e = .returned v ∧ (TV.tu [.ag (ic z), ci code]).sem (Nx N w w') w' G0 v ∧ Below w.heap.size w w' := by
  obtain ⟨s, A, n, c, e1, h1, h2⟩ := h
  exact ⟨_, e1, ⟨_, rfl, _, _, rfl, ⟨[.bool s, .slice A n c], rfl, semL_one' ⟨s, A, n, c, rfl, h1⟩⟩, _, _, rfl, rfl, rfl⟩, h2⟩
theorem drewN_below (w : World) (n : Nat) : Below w.heap.size w (w.drewN n) := ⟨rfl, rfl, rfl, Nat.le_refl _, fun _ _ => rfl⟩
section
variable {I : WInv} {x : List It} {z code : Int}
theorem fmt_x (hx : Num x z) : Sp Tryz.prog tabW 61 [.ag x] (tS (fmtL z)) := fmt_sp hx
theorem rfmt_x (hx : Num x z) : Sp Tryz.prog I 68 [.ag x] (tS (fmtL z)) := by
  intro N w vs hI _ hv
  obtain ⟨l, rfl, h1⟩ := args1 hv
  obtain ⟨s, A, n, c, rfl, h2, h3⟩ := hx N w l h1
  have e : strOf (fmtL z) = strOf (decz s z.natAbs) := (fmt_any h2.sign_eq).symm
  unfold tS
  rw [e]
  exact (refFormat_any w h2 (by omega)).mono fun e w' he => retV_sem he
theorem parse_x {xs : List Nat} (hx : B8 xs) (hp : PA xs z code) (hl : xs.length ≤ 9223372036854775807) : Sp Tryz.prog I 70 [cS xs] (.tu [.ag (ic z), ci code]) := by
  intro N w vs _ _ hv
  rw [argsI hv]
  exact (parse_any (strOf xs) w (by rw [hx.bo]; exact hp) (by rw [strOf_size]; exact hl)).mono fun e w' he => retIE_sem he
theorem rparse_x {xs : List Nat} (hx : B8 xs) (hp : PA xs z code) (hl : xs.length ≤ 9223372036854775807) : Sp Tryz.prog I 74 [cS xs] (.tu [.ag (ic z), ci code]) := by
  intro N w vs _ _ hv
  rw [argsI hv]
  exact (refParse_any (strOf xs) w (by rw [hx.bo]; exact hp) (by rw [strOf_size]; exact hl)).mono fun e w' he => retIE_sem he
theorem retW_sem {N : Nat → Prop} {w w' : World} {u : Value} {e : Ending} (h : RetW w u e w') : ∃ v, e = .returned v ∧ (tlit u).sem (Nx N w w') w' G0 v ∧ Below w.heap.size w w' := ⟨u, h.1, (rfl : [u] = [u]), by rw [← h.2]; exact Below.refl _ _⟩
theorem rdec_x {xs : List Nat} (b : Bool) (hx : B8 xs) (hl : xs.length ≤ 1000) (hb : b = true ↔ Deci xs) : Sp Tryz.prog I 75 [cS xs] (lb b) := by
  intro N w vs _ _ hv
  rw [argsI hv]
  exact (refDecimal_any (strOf xs) b w (by rw [strOf_size]; exact hl) (by rw [hx.bo]; exact hb)).mono fun e w' he => retW_sem he
theorem rdig_x {xs : List Nat} (b : Bool) (hx : B8 xs) (hl : xs.length ≤ 1000) (hb : b = true ↔ (0 < xs.length ∧ okD xs)) : Sp Tryz.prog I 77 [cS xs] (lb b) := by
  intro N w vs _ _ hv
  rw [argsI hv]
  exact (refDigits_any (strOf xs) b w (by rw [strOf_size]; exact hl) (by rw [hx.bo, strOf_size]; exact hb)).mono fun e w' he => retW_sem he
/-- digits of a number, perhaps with zero words behind them -/
def VD (k v : Nat) : Item where
  n := 1
  T := fun _ w l => ∃ A n c ms, l = [.slice A n c] ∧ Rd .u32 w w.heap.size A n ms ∧ W32 ms ∧ val ms = v ∧ n ≤ k ∧ n ≤ c ∧ c ≤ 9223372036854775807
  step := fun hw _ ⟨A, n, c, ms, e, h1, h2⟩ => ⟨A, n, c, ms, e, rd_step hw h1, h2⟩
  len := fun ⟨A, n, c, ms, e, _⟩ => by rw [e]; rfl
  one := fun ⟨A, n, c, ms, e, _⟩ => by rw [e]; intro v hv; simp at hv; rw [hv]; rfl
theorem rread_x {xs : List Nat} (hx : B8 xs) (hl : xs.length ≤ 1000) (hd : okD xs) : Sp Tryz.prog I 66 [cS xs] (tit (VD 1001 (nd xs))) := by
  intro N w vs _ _ hv
  rw [argsI hv]
  refine (refRead_any (strOf xs) w (by rw [strOf_size]; exact hl) (by rw [hx.bo]; exact hd)).mono ?_
  rintro e w' ⟨A, m, c, ms, rfl, ho, h1, h2, h3⟩
  rw [hx.bo] at h2
  rw [strOf_size] at h3
  have hb := ho.2
  obtain ⟨A2, n2, c2, e2, r2, h4, h5⟩ := ho.form'
  injection e2 with q1 q2 q3
  subst q1 q2 q3
  exact ⟨_, rfl, ⟨A, m, c, ms, rfl, r2, h1, h2, by omega, h4, h5⟩, hb⟩
theorem rmake_x (s : Bool) {k v : Nat} (hk : k ≤ 1099511627776) : Sp Tryz.prog I 65 [.one (.b (.lit (.bool s))), .one (.b (.it (VD k v)))] (tic (sgn s v)) := by
  intro N w vs _ _ hv
  obtain ⟨u, r, rfl, h1, v2, r2, rfl, h3, h4⟩ := hv
  have h1 : [u] = [.bool s] := h1
  injection h1 with h1
  obtain rfl : r2 = [] := h4
  obtain ⟨A, n, c, ms, e3, q1, q2, q3, q4, q5, q6⟩ := h3
  injection e3 with e3
  subst h1 e3 q3
  exact (make_any s w q1 (Nat.le_refl _) q2 q5 q6 (by omega)).mono fun e w' he => retInt_sem he
theorem pow_x {k : Nat} (hx : Num x z) (hk : k ≤ 64) : Sp Tryz.prog I 58 [.ag x, ci (k : Int)] (.tu [.ag (ic (z ^ k)), ci 0]) := by
  intro N w vs _ _ hv
  obtain ⟨v, r, rfl, ⟨l, rfl, h1⟩, v2, r2, rfl, h3, h4⟩ := hv
  have h3 : [v2] = [.int .i64 (k : Int)] := h3
  injection h3 with h3
  obtain rfl : r2 = [] := h4
  subst h3
  obtain ⟨s, A, n, c, rfl, h2, h5⟩ := hx N w l h1
  exact (pow_any w h2 h5 hk).mono fun e w' he => retIE_sem he
/-! ### the library -/
theorem rep_x (n : Nat) (hn : n ≤ 1000) : Sp Tryz.prog I 62 [cS [48], ci (n : Int)] (tS (List.replicate n 48)) := by
  intro N w vs _ _ hv
  obtain ⟨v, r, rfl, h1, v2, r2, rfl, h3, h4⟩ := hv
  have h1 : [v] = [.string (strOf [48])] := h1
  have h3 : [v2] = [.int .i64 (n : Int)] := h3
  injection h1 with h1
  injection h3 with h3
  obtain rfl : r2 = [] := h4
  subst h1 h3
  refine (Tryz.strings_Repeat (strOf [48]) n w (by omega) (by rw [strOf_size]; simp; omega)).mono ?_
  rintro e w' ⟨rfl, hb⟩
  have e1 : ∀ n, Lib.repeatL (strOf [48]).data.toList n = (List.replicate n 48).map UInt8.ofNat := by
    intro n
    rw [strOf_data]
    induction n with
    | zero => rfl
    | succ n ih => rw [Lib.repeatL, ih, List.replicate_succ, List.map_cons]; rfl
  rw [e1]
  exact ⟨_, rfl, (rfl : [_] = [_]), hb⟩
theorem pre_list (xs : List Nat) (hx : B8 xs) : Lib.hasPrefix (xs.map UInt8.ofNat) [UInt8.ofNat 45] = pNeg xs := by
  unfold Lib.hasPrefix pNeg
  cases xs with
  | nil => rfl
  | cons a l =>
    have ha := hx a (by simp)
    simp only [List.map_cons, List.isPrefixOf, List.getD_cons_zero, Bool.and_true]
    by_cases h : a = 45
    · subst h; rfl
    · have h1 : (UInt8.ofNat 45 == UInt8.ofNat a) = false := by
        rw [beq_eq_false_iff_ne]
        exact fun h' => h ((ofNat8 (by omega) ha).1 h').symm
      rw [h1]
      have h2 : (a == 45) = false := by rw [beq_eq_false_iff_ne]; exact h
      rw [h2]
theorem hasp_x {xs : List Nat} (hx : B8 xs) : Sp Tryz.prog I 107 [cS xs, cS [45]] (lb (pNeg xs)) := by
  intro N w vs _ _ hv
  obtain ⟨v, r, rfl, h1, v2, r2, rfl, h3, h4⟩ := hv
  have h1 : [v] = [.string (strOf xs)] := h1
  have h3 : [v2] = [.string (strOf [45])] := h3
  injection h1 with h1
  injection h3 with h3
  obtain rfl : r2 = [] := h4
  subst h1 h3
  refine (Tryz.strings_HasPrefix (strOf xs) (strOf [45]) w).mono ?_
  rintro e w' ⟨rfl, rfl⟩
  rw [strOf_data, strOf_data, show [45].map UInt8.ofNat = [UInt8.ofNat 45] from rfl, pre_list xs hx]
  exact ⟨_, rfl, (rfl : [_] = [_]), Below.refl _ _⟩
theorem trimp_x {xs : List Nat} (hx : B8 xs) : Sp Tryz.prog I 114 [cS xs, cS [45]] (tS (pBody xs)) := by
  intro N w vs _ _ hv
  obtain ⟨v, r, rfl, h1, v2, r2, rfl, h3, h4⟩ := hv
  have h1 : [v] = [.string (strOf xs)] := h1
  have h3 : [v2] = [.string (strOf [45])] := h3
  injection h1 with h1
  injection h3 with h3
  obtain rfl : r2 = [] := h4
  subst h1 h3
  refine (Tryz.strings_TrimPrefix (strOf xs) (strOf [45]) w).mono ?_
  rintro e w' ⟨rfl, rfl⟩
  refine ⟨_, rfl, ?_, Below.refl _ _⟩
  have e1 : Lib.trimPrefix (strOf xs).data.toList (strOf [45]).data.toList = (pBody xs).map UInt8.ofNat := by
    rw [strOf_data, strOf_data, show [45].map UInt8.ofNat = [UInt8.ofNat 45] from rfl]
    unfold Lib.trimPrefix pBody
    rw [pre_list xs hx]
    split
    · rw [List.map_drop]; rfl
    · rfl
  rw [e1]
  exact (rfl : [_] = [_])
theorem triml_x {xs : List Nat} (hx : B8 xs) : Sp Tryz.prog I 115 [cS xs, cS [48]] (tS (xs.dropWhile (· == 48))) := by
  intro N w vs _ _ hv
  obtain ⟨v, r, rfl, h1, v2, r2, rfl, h3, h4⟩ := hv
  have h1 : [v] = [.string (strOf xs)] := h1
  have h3 : [v2] = [.string (strOf [48])] := h3
  injection h1 with h1
  injection h3 with h3
  obtain rfl : r2 = [] := h4
  subst h1 h3
  refine (Tryz.strings_TrimLeft_one (strOf xs) (UInt8.ofNat 48) (by decide) w).mono ?_
  rintro e w' ⟨rfl, rfl⟩
  refine ⟨_, rfl, ?_, Below.refl _ _⟩
  have e1 : ∀ xs : List Nat, B8 xs → Lib.trimLeftB (xs.map UInt8.ofNat) (UInt8.ofNat 48) = (xs.dropWhile (· == 48)).map UInt8.ofNat := by
    intro xs
    unfold Lib.trimLeftB
    induction xs with
    | nil => intro _; rfl
    | cons a l ih =>
      intro hx
      have ha := hx a (by simp)
      rw [List.map_cons, List.dropWhile_cons, List.dropWhile_cons]
      by_cases h : a = 48
      · subst h
        simp only [beq_self_eq_true, if_true]
        exact ih fun y hy => hx y (by simp [hy])
      · have h1 : (UInt8.ofNat a == UInt8.ofNat 48) = false := by
          rw [beq_eq_false_iff_ne]
          exact fun h' => h ((ofNat8 ha (by omega)).1 h')
        have h2 : (a == 48) = false := by rw [beq_eq_false_iff_ne]; exact h
        rw [h1, h2]
        simp
  rw [strOf_data, e1 xs hx]
  exact (rfl : [_] = [_])
end
end Go.Proofs.YtociocengfjioaaGreatDoor

/- A slice of one's own under another name. -/
namespace Go.Proofs.YtociocengfjioaaGreatDoor
open Go Go.RowKit
set_option linter.unusedVariables false
set_option linter.unusedSimpArgs false

/-- does not speak of the box k -/
def It.av (k : Nat) : It → Bool
  | .ptr j _ => !Nat.beq j k
  | .sl j => !Nat.beq j k
  | _ => true
def CT.av (k : Nat) : CT → Bool
  | .one x => x.av k
  | .ag l => l.all (It.av k)
def TV.av (k : Nat) : TV → Bool
  | .cv c => c.av k
  | .tu l => l.all (CT.av k)
def avE (k : Nat) : Env → Bool
  | [] => true
  | (_, v) :: r => v.av k && avE k r
def avB (k : Nat) : Bxs → Bool
  | [] => true
  | (j, some e) :: r => !Nat.beq j k && e.its.all (It.av k) && avB k r
  | (_, none) :: r => avB k r
section
variable {I : WInv} {nt : Nat}
def renG (g : Gh) (k k' : Nat) : Gh := fun x => if x = k then g k' else g x
theorem renG_at {g : Gh} {k k' j : Nat} (h : Nat.beq j k = false) : renG g k k' j = g j := by
  unfold renG
  rw [if_neg]
  intro e
  rw [e, Nat.beq_refl] at h
  cases h
theorem renG_same {g : Gh} {k k' : Nat} : renG g k k' k = g k' := by unfold renG; rw [if_pos rfl]
theorem not_t {b : Bool} (h : (!b) = true) : b = false := by simpa using h
theorem It.av_sem {N : Nat → Prop} {w : World} {g : Gh} {k k' : Nat} {x : It} {l : List Value} (h : x.av k = true) (hs : x.sem N w g l) : x.sem N w (renG g k k') l := by
  cases x with
  | b x => exact hs
  | fp x => exact hs
  | ptr j off => obtain ⟨b, h1, h2⟩ := hs; exact ⟨b, by unfold blkOf; rw [renG_at (not_t h)]; exact h1, h2⟩
  | sl j => obtain ⟨A, n, c, h1, h2⟩ := hs; exact ⟨A, n, c, by rw [renG_at (not_t h)]; exact h1, h2⟩
theorem semL_av {N : Nat → Prop} {w : World} {g : Gh} {k k' : Nat} : ∀ {xs : List It} {l : List Value}, xs.all (It.av k) = true → semL N w g xs l → semL N w (renG g k k') xs l
  | [], _, _, h => h
  | x :: xs, _, hn, ⟨l1, l2, e, h1, h2⟩ => by
    simp only [List.all_cons, Bool.and_eq_true] at hn
    exact ⟨l1, l2, e, It.av_sem hn.1 h1, semL_av hn.2 h2⟩
theorem CT.av_sem {N : Nat → Prop} {w : World} {g : Gh} {k k' : Nat} {c : CT} {v : Value} (h : c.av k = true) (hs : c.sem N w g v) : c.sem N w (renG g k k') v := by
  cases c with
  | one x => exact It.av_sem h hs
  | ag l => obtain ⟨vs, e, h1⟩ := hs; exact ⟨vs, e, semL_av h h1⟩
theorem all2_av {N : Nat → Prop} {w : World} {g : Gh} {k k' : Nat} : ∀ {cs : List CT} {vs : List Value}, cs.all (CT.av k) = true → all2 (CT.sem N w g) cs vs → all2 (CT.sem N w (renG g k k')) cs vs
  | [], _, _, h => h
  | c :: cs, _, hn, ⟨v, l, e, h1, h2⟩ => by
    simp only [List.all_cons, Bool.and_eq_true] at hn
    exact ⟨v, l, e, CT.av_sem hn.1 h1, all2_av hn.2 h2⟩
theorem TV.av_sem {N : Nat → Prop} {w : World} {g : Gh} {k k' : Nat} {t : TV} {v : Value} (h : t.av k = true) (hs : t.sem N w g v) : t.sem N w (renG g k k') v := by
  cases t with
  | cv c => exact CT.av_sem h hs
  | tu l => obtain ⟨vs, e, h1⟩ := hs; exact ⟨vs, e, all2_av h h1⟩
theorem avE_look {k : Nat} : ∀ {E : Env} {t : Nat} {v : TV}, avE k E = true → look E t = some v → v.av k = true
  | [], _, _, _, h => by cases h
  | (q, u) :: r, t, v, h, hv => by
    simp only [avE, Bool.and_eq_true] at h
    simp only [look] at hv
    split at hv
    · injection hv with hv; rw [← hv]; exact h.1
    · exact avE_look h.2 hv
theorem avB_look {k : Nat} : ∀ {B : Bxs} {t : Nat} {e : Ent}, avB k B = true → lookB B t = some e → Nat.beq t k = false ∧ e.its.all (It.av k) = true
  | [], _, _, _, h => by cases h
  | (j, some u) :: r, t, e, h, hv => by
    simp only [avB, Bool.and_eq_true] at h
    simp only [lookB] at hv
    split at hv
    · rename_i hk
      injection hv with hv
      rw [← hv, ← Nat.eq_of_beq_eq_true hk]
      exact ⟨not_t h.1.1, h.1.2⟩
    · exact avB_look h.2 hv
  | (j, none) :: r, t, e, h, hv => by
    simp only [avB] at h
    simp only [lookB] at hv
    split at hv
    · cases hv
    · exact avB_look h hv
theorem BoxSem.ren {N : Nat → Prop} {w : World} {g : Gh} {base : Nat → Prop} {k k' j : Nat} {e : Ent} (h : BoxSem N w g base j e) (hg : renG g k k' j = g j) (he : e.its.all (It.av k) = true) : BoxSem N w (renG g k k') base j e := by
  obtain ⟨gv, h1, h2⟩ := h
  refine ⟨gv, by rw [hg]; exact h1, ?_⟩
  rcases h2 with ⟨s, n, r1, r2, r3, r4⟩ | ⟨b, cs, l, r1, r2, r3, r4⟩
  · exact .inl ⟨s, n, r1, r2, r3, semL_av he r4⟩
  · exact .inr ⟨b, cs, l, r1, r2, semL_av he r3, r4⟩
theorem ren_leads {t k k' : Nat} {E : Env} {B : Bxs} {e : Ent} {nx : Nat} (hE : avE k E = true) (hB : avB k B = true) (he : e.its.all (It.av k) = true) (hk : k < nx) (hk' : lookB B k' = none) (h2k : 2 ≤ k := by omega) :
    Leads I nt ⟨(t, .cv (.one (.sl k'))) :: E, (k', some e) :: B, nx⟩ ⟨(t, .cv (.one (.sl k))) :: E, (k, some e) :: B, nx⟩ := by
  rintro N0 w0 a w ⟨N, g, h1, h2⟩
  have old : ∀ j e', lookB B j = some e' → lookB ((k', some e) :: B) j = some e' := by
    intro j e' hj
    have : k' ≠ j := by intro h; rw [h, hj] at hk'; cases hk'
    rw [lookB_cons, if_neg this]; exact hj
  refine ⟨N, renG g k k', { h1 with slots := ?_, boxes := ?_, inj := ?_, rig := fun x v hv => by have := w0.lo x v hv; unfold renG; rw [if_neg (by omega)]; exact h1.rig x v hv }, ?_⟩
  · intro q v hv
    rw [look_cons] at hv
    by_cases hq : t = q
    · subst hq
      rw [if_pos rfl] at hv
      injection hv with hv
      subst hv
      obtain ⟨A, n, c, e1, e2⟩ := h1.slots t _ (by rw [look_cons, if_pos rfl])
      exact ⟨A, n, c, by rw [renG_same]; exact e1, e2⟩
    · rw [if_neg hq] at hv
      exact TV.av_sem (avE_look hE hv) (h1.slots q v (by rw [look_cons, if_neg hq]; exact hv))
  · intro j e' hj
    rw [lookB_cons] at hj
    by_cases hjk : k = j
    · subst hjk
      rw [if_pos rfl] at hj
      injection hj with hj
      subst hj
      obtain ⟨gv, r1, r2⟩ := h1.boxes k' e (by rw [lookB_cons, if_pos rfl])
      refine ⟨gv, by rw [renG_same]; exact r1, ?_⟩
      rcases r2 with ⟨s, n, q1, q2, q3, q4⟩ | ⟨b, cs, l, q1, q2, q3, q4⟩
      · exact .inl ⟨s, n, q1, q2, q3, semL_av he q4⟩
      · exact .inr ⟨b, cs, l, q1, q2, semL_av he q3, q4⟩
    · rw [if_neg hjk] at hj
      obtain ⟨f1, f2⟩ := avB_look hB hj
      exact (h1.boxes j e' (old j e' hj)).ren (renG_at f1) f2
  · -- distinct
    have key : ∀ j e' b, lookB ((k, some e) :: B) j = some e' → blkOf (renG g k k') j = some b → ∃ i e'', lookB ((k', some e) :: B) i = some e'' ∧ blkOf g i = some b ∧ (j = k ∧ i = k' ∨ j ≠ k ∧ i = j ∧ lookB B j = some e') := by
      intro j e' b q1 q2
      rw [lookB_cons] at q1
      by_cases hjk : k = j
      · subst hjk
        refine ⟨k', e, by rw [lookB_cons, if_pos rfl], ?_, .inl ⟨rfl, rfl⟩⟩
        unfold blkOf at q2 ⊢; rw [renG_same] at q2; exact q2
      · rw [if_neg hjk] at q1
        refine ⟨j, e', old j e' q1, ?_, .inr ⟨Ne.symm hjk, rfl, q1⟩⟩
        unfold blkOf at q2 ⊢; rw [renG_at (avB_look hB q1).1] at q2; exact q2
    intro i j e1 e2 b q1 q2 q3 q4
    obtain ⟨i', f1, r1, r2, r3⟩ := key i e1 b q1 q3
    obtain ⟨j', f2, s1, s2, s3⟩ := key j e2 b q2 q4
    have := h1.inj i' j' f1 f2 b r1 s1 r2 s2
    rcases r3 with ⟨a1, a2⟩ | ⟨a1, a2, a3⟩ <;> rcases s3 with ⟨b1, b2⟩ | ⟨b1, b2, b3⟩
    · rw [a1, b1]
    · exfalso; rw [a2, b2] at this; rw [← this, hk'] at b3; cases b3
    · exfalso; rw [a2, b2] at this; rw [this, hk'] at a3; cases a3
    · rw [← a2, ← b2]; exact this
  · intro x hx
    show renG g k k' x = none
    have hx : nx ≤ x := hx
    unfold renG
    rw [if_neg (by omega)]
    exact h2 x hx
/-- names beyond nx' are forgotten -/
theorem cut_leads {E : Env} {B : Bxs} {nx nx' : Nat} (hE : ltE nx' E = true) (hB : ltB nx' B = true) (h2n : 2 ≤ nx' := by omega) : Leads I nt ⟨E, B, nx⟩ ⟨E, B, nx'⟩ := by
  rintro N0 w0 a w ⟨N, g, h1, h2⟩
  refine ⟨N, cutG g nx', { h1 with slots := fun t v hv => TV.lt_sem (ltE_look hE hv) (h1.slots t v hv), boxes := fun k e he => (h1.boxes k e he).cut (ltB_look hB he).1 (ltB_look hB he).2, inj := ?_, rig := fun x v hv => by rw [cutG_at (Nat.lt_of_lt_of_le (w0.lo x v hv) h2n)]; exact h1.rig x v hv }, fun k hk => by show cutG g nx' k = none; unfold cutG; rw [if_neg (Nat.not_lt.2 hk)]⟩
  intro k j e e' bb q1 q2 q3 q4
  rw [cutG_blk (ltB_look hB q1).1] at q3
  rw [cutG_blk (ltB_look hB q2).1] at q4
  exact h1.inj k j e e' bb q1 q2 q3 q4
end
end Go.Proofs.YtociocengfjioaaGreatDoor

/- Loops that count, states that say less, lengths and rows of mapped lists. -/
namespace Go.Proofs.YtociocengfjioaaGreatDoor
open Go Go.RowKit
set_option linter.unusedVariables false
set_option linter.unusedSimpArgs false

theorem map_some {α β : Type} {f : α → β} {xs : List α} {i : Nat} {x : α} (h : xs[i]? = some x) : (xs.map f)[i]? = some (f x) := by rw [List.getElem?_map, h]; rfl
theorem get_ex {α : Type} {xs : List α} {i : Nat} (h : i < xs.length) : ∃ x, xs[i]? = some x := ⟨xs[i], List.getElem?_eq_getElem h⟩
section
variable {P : Program} {I : WInv} {nt : Nat}
theorem loop_from {c : Code} {ex : Exit} {b : St} (hex : ex ≠ .normal) (s : Nat → St) (i0 m : Nat) (h0 : i0 ≤ m) (step : ∀ i, i0 ≤ i → i < m → Rnd P I nt c (s i) .normal (s (i + 1))) (fin : Rnd P I nt c (s m) ex b) : LoopTr P I nt c (s i0) ex b := by
  refine loop_tr (ι := Nat) hex s (fun i => m - i) (fun i => i0 ≤ i ∧ i ≤ m) i0 ⟨Nat.le_refl _, h0⟩ ?_
  intro i hi
  by_cases h : i < m
  · exact .inl ⟨i + 1, ⟨by have := hi.1; omega, h⟩, by show m - (i + 1) < m - i; omega, step i hi.1 h⟩
  · have : i = m := by have := hi.2; omega
    subst this
    exact .inr fin
theorem loop_up {c : Code} {ex : Exit} {b : St} (hex : ex ≠ .normal) (s : Nat → St) (m : Nat) (step : ∀ i, i < m → Rnd P I nt c (s i) .normal (s (i + 1))) (fin : Rnd P I nt c (s m) ex b) : LoopTr P I nt c (s 0) ex b :=
  loop_from hex s 0 m (Nat.zero_le _) (fun i _ h => step i h) fin
theorem sl_len2 (t e ty : TypeId) (sz : Nat) (rows : List (List It0)) (n : Int) (ht : P.underlying t = some (.slice e)) (hn : (rows.length : Int) = n) : OpOb P (.len #[t] ty) [tit (slI sz rows)] (li n) := by
  subst hn
  exact sl_len t e ty sz rows ht
theorem sl_ln (t e ty : TypeId) (sz : Nat) (rows : List (List It0)) (n : Int) (ht : P.underlying t = some (.slice e) := by kernel_rfl) (hn : (rows.length : Int) = n := by rw [List.length_map] <;> omega) : OpOb P (.len #[t] ty) [tit (slI sz rows)] (li n) := sl_len2 t e ty sz rows n ht hn
theorem c_i64 (s d : TypeId) (x : Int) (hs : P.underlying s = some (.int .i64)) (ht : P.underlying d = some (.int .i64)) (h : R64 x) : OpOb P (.conv s d) [li x] (li x) := op_lit (vs := [.int .i64 x]) fun w => by
  simp [OpK.run, convert, underlying_run hs, underlying_run ht, Conv.intToInt, IntWalk.i64_in x h]

/-! ### types that say less -/
def TVle (v v' : TV) : Prop := ∀ N w g x, v.sem N w g x → v'.sem N w g x
def CTle (v v' : CT) : Prop := ∀ N w g x, v.sem N w g x → v'.sem N w g x
def ILe (l l' : List It) : Prop := ∀ N w g x, semL N w g l x → semL N w g l' x
def XLe (x y : It) : Prop := ∀ N w g l, x.sem N w g l → y.sem N w g l
def X0le (x y : It0) : Prop := ∀ N w l, x.sem N w l → y.sem N w l
def I0le (l l' : List It0) : Prop := ∀ N w x, semL0 N w l x → semL0 N w l' x
def ItLe (i j : Item) : Prop := ∀ N w l, i.T N w l → j.T N w l
theorem TVle.refl {v : TV} : TVle v v := fun _ _ _ _ h => h
theorem CTle.refl {v : CT} : CTle v v := fun _ _ _ _ h => h
theorem ILe.refl {v : List It} : ILe v v := fun _ _ _ _ h => h
theorem I0le.refl {v : List It0} : I0le v v := fun _ _ _ h => h
theorem ItLe.refl {v : Item} : ItLe v v := fun _ _ _ h => h
theorem CTle.tv {c c' : CT} (h : CTle c c') : TVle (.cv c) (.cv c') := h
theorem ILe.ag {l l' : List It} (h : ILe l l') : CTle (.ag l) (.ag l') := fun N w g _ ⟨vs, e, hv⟩ => ⟨vs, e, h N w g vs hv⟩
theorem XLe.one {x y : It} (h : XLe x y) : CTle (.one x) (.one y) := fun N w g v hv => h N w g [v] hv
theorem ItLe.x {i j : Item} (h : ItLe i j) : XLe (.b (.it i)) (.b (.it j)) := fun N w _ l hl => h N w l hl
theorem ItLe.x0 {i j : Item} (h : ItLe i j) : X0le (.it i) (.it j) := fun N w l hl => h N w l hl
theorem XLe.refl {x : It} : XLe x x := fun _ _ _ _ h => h
theorem X0le.refl {x : It0} : X0le x x := fun _ _ _ h => h
theorem ILe.cons {x y : It} {l l' : List It} (h : XLe x y) (hl : ILe l l') : ILe (x :: l) (y :: l') := fun N w g _ ⟨a, b, e, h1, h2⟩ => ⟨a, b, e, h N w g a h1, hl N w g b h2⟩
theorem I0le.cons {x y : It0} {l l' : List It0} (h : X0le x y) (hl : I0le l l') : I0le (x :: l) (y :: l') := fun N w _ ⟨a, b, e, h1, h2⟩ => ⟨a, b, e, h N w a h1, hl N w b h2⟩
theorem I0le.map {l l' : List It0} (h : I0le l l') : ILe (l.map It.b) (l'.map It.b) := fun N w g x hx => semL0_semL (h N w x (semL_semL0 hx))
theorem tuLe : ∀ {l l' : List CT}, (∀ N w g vs, all2 (CT.sem N w g) l vs → all2 (CT.sem N w g) l' vs) → TVle (.tu l) (.tu l') := fun h N w g _ ⟨vs, e, hv⟩ => ⟨vs, e, h N w g vs hv⟩
def WkA : List CT → List CT → Prop
  | [], [] => True
  | c :: l, c' :: l' => CTle c c' ∧ WkA l l'
  | _, _ => False
theorem WkA.all2 {N : Nat → Prop} {w : World} {g : Gh} : ∀ {l l' : List CT} {vs : List Value}, WkA l l' → all2 (CT.sem N w g) l vs → all2 (CT.sem N w g) l' vs
  | [], [], _, _, h => h
  | c :: l, c' :: l', _, hw, ⟨v, r, e, h1, h2⟩ => ⟨v, r, e, hw.1 N w g v h1, WkA.all2 hw.2 h2⟩
  | [], _ :: _, _, hw, _ => hw.elim
  | _ :: _, [], _, hw, _ => hw.elim
theorem Sp.wk {f : FuncId} {args args' : List CT} {res : TV} (h : Sp P I f args res) (hw : WkA args' args) : Sp P I f args' res := h.sub fun _ _ _ hv => hw.all2 hv
theorem Sp.rs {f : FuncId} {args : List CT} {res res' : TV} (h : Sp P I f args res) (hr : TVle res res') : Sp P I f args res' := h.res fun N w v hv => hr N w G0 v hv
theorem tu_le {l l' : List CT} (h : WkA l l') : TVle (.tu l) (.tu l') := fun _ _ _ _ ⟨vs, e, hv⟩ => ⟨vs, e, h.all2 hv⟩
theorem slI_le {sz : Nat} {rows rows' : List (List It0)} (hl : rows.length = rows'.length) (h : ∀ (i : Nat) r', rows'[i]? = some r' → ∃ r, rows[i]? = some r ∧ I0le r r') : ItLe (slI sz rows) (slI sz rows') := by
  rintro N w l ⟨A, c, e, h1, h2, h3⟩
  refine ⟨A, c, by rw [e, hl], by omega, h2, fun hr => ?_⟩
  obtain ⟨b, off, hA, hrow⟩ := h3 (by intro h0; rw [h0] at hl; exact hr (List.eq_nil_of_length_eq_zero hl.symm))
  refine ⟨b, off, hA, fun i r' hi => ?_⟩
  obtain ⟨r, hr1, hr2⟩ := h i r' hi
  obtain ⟨cs, T, fr, vs, k1, k2, k3, k4⟩ := hrow i r hr1
  exact ⟨cs, T, fr, vs, k1, k2, k3, hr2 N w vs k4⟩
theorem slI_map {α β : Type} {sz : Nat} {xs : List α} {f : α → List It0} {g : β → List It0} (φ : α → β) (h : ∀ x ∈ xs, I0le (f x) (g (φ x))) : ItLe (slI sz (xs.map f)) (slI sz ((xs.map φ).map g)) := by
  refine slI_le (by simp) fun i r' hr => ?_
  rw [List.getElem?_map, List.getElem?_map] at hr
  cases hx : xs[i]? with
  | none => rw [hx] at hr; cases hr
  | some x =>
    rw [hx] at hr
    injection hr with hr
    subst hr
    exact ⟨f x, by rw [List.getElem?_map, hx]; rfl, h x (List.mem_of_getElem? hx)⟩
theorem slI_map' {α : Type} {sz : Nat} {xs : List α} {f g : α → List It0} (h : ∀ x ∈ xs, I0le (f x) (g x)) : ItLe (slI sz (xs.map f)) (slI sz (xs.map g)) := by
  have := slI_map (sz := sz) (xs := xs) (f := f) (g := g) id h
  rwa [List.map_id] at this

/-! ### states that say less -/
def WkE : Env → Env → Prop
  | [], [] => True
  | (t, v) :: E, (t', v') :: E' => t = t' ∧ TVle v v' ∧ WkE E E'
  | _, _ => False
def WkB : Bxs → Bxs → Prop
  | [], [] => True
  | (k, some e) :: B, (k', some e') :: B' => k = k' ∧ e.T = e'.T ∧ e.sl = e'.sl ∧ ILe e.its e'.its ∧ WkB B B'
  | _, _ => False
theorem WkE.look : ∀ {E E' : Env} {t : Nat} {v' : TV}, WkE E E' → look E' t = some v' → ∃ v, Go.Proofs.YtociocengfjioaaGreatDoor.look E t = some v ∧ TVle v v'
  | [], [], _, _, _, h => by cases h
  | (t, v) :: E, (t', v') :: E', q, u, hw, h => by
    obtain ⟨rfl, h1, h2⟩ := hw
    rw [look_cons] at h ⊢
    by_cases hq : t = q
    · rw [if_pos hq] at h ⊢
      injection h with h
      subst h
      exact ⟨v, rfl, h1⟩
    · rw [if_neg hq] at h ⊢
      exact WkE.look h2 h
  | [], _ :: _, _, _, hw, _ => hw.elim
  | _ :: _, [], _, _, hw, _ => hw.elim
theorem WkB.look : ∀ {B B' : Bxs} {k : Nat} {e' : Ent}, WkB B B' → lookB B' k = some e' → ∃ e, lookB B k = some e ∧ e.T = e'.T ∧ e.sl = e'.sl ∧ ILe e.its e'.its
  | [], [], _, _, _, h => by cases h
  | (k, some e) :: B, (k', some e') :: B', q, u, hw, h => by
    obtain ⟨rfl, h1, h2, h3, h4⟩ := hw
    rw [lookB_cons] at h ⊢
    by_cases hq : k = q
    · rw [if_pos hq] at h ⊢
      injection h with h
      subst h
      exact ⟨e, rfl, h1, h2, h3⟩
    · rw [if_neg hq] at h ⊢
      exact WkB.look h4 h
  | [], _ :: _, _, _, hw, _ => hw.elim
  | (_, some _) :: _, [], _, _, hw, _ => hw.elim
  | (_, none) :: _, [], _, _, hw, _ => hw.elim
  | (_, none) :: _, (_, _) :: _, _, _, hw, _ => hw.elim
  | (_, some _) :: _, (_, none) :: _, _, _, hw, _ => hw.elim
theorem BoxSem.le {N : Nat → Prop} {w : World} {g : Gh} {base : Nat → Prop} {k : Nat} {e e' : Ent} (h : BoxSem N w g base k e) (hT : e.T = e'.T) (hs : e.sl = e'.sl) (hi : ILe e.its e'.its) : BoxSem N w g base k e' := by
  obtain ⟨T, sl, its⟩ := e
  obtain ⟨T', sl', its'⟩ := e'
  simp only at hT hs hi
  subst hT hs
  obtain ⟨gv, h1, h2⟩ := h
  refine ⟨gv, h1, ?_⟩
  rcases h2 with ⟨s, n, r1, r2, r3, r4⟩ | ⟨b, cs, l, r1, r2, r3, r4⟩
  · exact .inl ⟨s, n, r1, r2, r3, hi _ _ _ _ r4⟩
  · exact .inr ⟨b, cs, l, r1, r2, hi _ _ _ _ r3, r4⟩
theorem weak_leads {E E' : Env} {B B' : Bxs} {nx : Nat} (hE : WkE E E') (hB : WkB B B') : Leads I nt ⟨E, B, nx⟩ ⟨E', B', nx⟩ := by
  rintro N0 w0 a w ⟨N, g, h1, h2⟩
  refine ⟨N, g, { h1 with slots := ?_, boxes := ?_, inj := ?_ }, h2⟩
  · intro t v hv
    obtain ⟨u, hu, hle⟩ := hE.look hv
    exact hle N w g _ (h1.slots t u hu)
  · intro k e he
    obtain ⟨u, hu, q1, q2, q3⟩ := hB.look he
    exact (h1.boxes k u hu).le q1 q2 q3
  · intro k j e e' b q1 q2 q3 q4
    obtain ⟨u, hu, _⟩ := hB.look q1
    obtain ⟨v, hv, _⟩ := hB.look q2
    exact h1.inj k j u v b hu hv q3 q4
theorem LoopTr.pre {c : Code} {a a' b : St} {ex : Exit} (hl : Leads I nt a a') (h : LoopTr P I nt c a' ex b) : LoopTr P I nt c a ex b := fun N0 w0 act w hs => h N0 w0 act w (hl N0 w0 act w hs)
theorem LoopTr.post {c : Code} {a b b' : St} {ex : Exit} (h : LoopTr P I nt c a ex b) (hl : Leads I nt b b') : LoopTr P I nt c a ex b' := fun N0 w0 act w hs => wp_mono (h N0 w0 act w hs) fun e a' w' ⟨h1, h2⟩ => ⟨h1, hl N0 w0 a' w' h2⟩
theorem Leads.trans {a b c : St} (h : Leads I nt a b) (h' : Leads I nt b c) : Leads I nt a c := fun N0 w0 act w hs => h' N0 w0 act w (h N0 w0 act w hs)

/-- a box that says less -/
theorem box_leads {E : Env} {B : Bxs} {k nx : Nat} {T : TypeId} {sl : Option (Nat × Nat)} {its its' : List It} (h : ∀ N w g l, semL N w g its l → semL N w g its' l) (hk : lookB B k = none) : Leads I nt ⟨E, (k, some ⟨T, sl, its⟩) :: B, nx⟩ ⟨E, (k, some ⟨T, sl, its'⟩) :: B, nx⟩ := by
  rintro N0 w0 a w ⟨N, g, h1, h2⟩
  refine ⟨N, g, { h1 with boxes := ?_, inj := ?_ }, h2⟩
  · intro j e hj
    rw [lookB_cons] at hj
    by_cases hkj : k = j
    · subst hkj
      rw [if_pos rfl] at hj
      injection hj with hj
      subst hj
      obtain ⟨gv, r1, r2⟩ := h1.boxes k ⟨T, sl, its⟩ (by rw [lookB_cons, if_pos rfl])
      refine ⟨gv, r1, ?_⟩
      rcases r2 with ⟨s, n, q1, q2⟩ | ⟨b, cs, l, q1, q2, q3, q4, q5, q6, q7⟩
      · exact .inl ⟨s, n, q1, q2.1, q2.2.1, h _ _ _ _ q2.2.2⟩
      · exact .inr ⟨b, cs, l, q1, q2, h _ _ _ _ q3, q4, q5, q6, q7⟩
    · rw [if_neg hkj] at hj
      exact h1.boxes j e (by rw [lookB_cons, if_neg hkj]; exact hj)
  · intro i j e e' b q1 q2
    have nm : ∀ j e, lookB ((k, some (⟨T, sl, its'⟩ : Ent)) :: B) j = some e → ∃ e', lookB ((k, some (⟨T, sl, its⟩ : Ent)) :: B) j = some e' := by
      intro j e hj
      rw [lookB_cons] at hj ⊢
      by_cases hkj : k = j
      · rw [if_pos hkj]; exact ⟨_, rfl⟩
      · rw [if_neg hkj] at hj ⊢; exact ⟨e, hj⟩
    obtain ⟨f1, p1⟩ := nm i e q1
    obtain ⟨f2, p2⟩ := nm j e' q2
    exact h1.inj i j f1 f2 b p1 p2

/-! ### slices of one's own, row by row -/
def flatR (rows : List (List It0)) : List It := rows.flatten.map It.b
theorem flatR_nil : flatR [] = [] := rfl
theorem flatR_snoc (rows : List (List It0)) (r : List It0) : flatR rows ++ r.map It.b = flatR (rows ++ [r]) := by simp [flatR]
theorem flatR_app (a b : List (List It0)) : flatR (a ++ b) = flatR a ++ flatR b := by simp [flatR]
theorem mapB_av (k : Nat) (l : List It0) : (l.map It.b).all (It.av k) = true := by
  rw [List.all_eq_true]; intro x hx; obtain ⟨y, _, rfl⟩ := List.mem_map.1 hx; rfl
theorem mapB_noPtr (l : List It0) : (l.map It.b).all It.noPtr = true := by
  rw [List.all_eq_true]; intro x hx; obtain ⟨y, _, rfl⟩ := List.mem_map.1 hx; rfl
theorem mapB_lt (k : Nat) (l : List It0) : (l.map It.b).all (It.lt k) = true := by
  rw [List.all_eq_true]; intro x hx; obtain ⟨y, _, rfl⟩ := List.mem_map.1 hx; rfl
/-- the slice's new name goes back to the old one -/
theorem Rnd.grow {c : Code} {s : St} {ex : Exit} {t k k' nx n T sz : Nat} {E : Env} {B : Bxs} {rows : List (List It0)} {row : List It0} (h : Rnd P I nt c s ex ⟨(t, .cv (.one (.sl k'))) :: E, (k', some ⟨T, some (sz, rows.length + 1), flatR rows ++ row.map It.b⟩) :: B, nx⟩)
    (h1 : (avE k E && avB k B && ltE n E && ltB n B && Nat.blt k n && Nat.blt k nx && Nat.ble 2 k) = true) (h2 : lookB B k' = none) : Rnd P I nt c s ex ⟨(t, .cv (.one (.sl k))) :: E, (k, some ⟨T, some (sz, (rows ++ [row]).length), flatR (rows ++ [row])⟩) :: B, n⟩ := by
  simp only [Bool.and_eq_true] at h1
  obtain ⟨⟨⟨⟨⟨⟨a1, a2⟩, a3⟩, a4⟩, a5⟩, a6⟩, a7⟩ := h1
  have a8 := Nat.le_of_ble_eq_true a7
  have a9 := blt_lt a5
  rw [flatR_snoc] at h
  rw [show rows.length + 1 = (rows ++ [row]).length by simp] at h
  have r := h.leads (ren_leads (k := k) a1 a2 (mapB_av k _) (blt_lt a6) h2)
  refine r.leads (cut_leads ?_ ?_)
  · simp only [ltE, TV.lt, CT.lt, It.lt, a5, a3, Bool.and_self]
  · simp only [ltB, flatR, mapB_lt, a5, a4, Bool.and_self]
theorem Rnd.cut {c : Code} {s : St} {ex : Exit} {t k nx n T : Nat} {sl : Option (Nat × Nat)} {E : Env} {B : Bxs} {rows : List (List It0)} (h : Rnd P I nt c s ex ⟨(t, .cv (.one (.sl k))) :: E, (k, some ⟨T, sl, flatR rows⟩) :: B, nx⟩)
    (h1 : (ltE n E && ltB n B && Nat.blt k n && Nat.ble 2 n) = true) : Rnd P I nt c s ex ⟨(t, .cv (.one (.sl k))) :: E, (k, some ⟨T, sl, flatR rows⟩) :: B, n⟩ := by
  simp only [Bool.and_eq_true] at h1
  obtain ⟨⟨⟨a3, a4⟩, a5⟩, a6⟩ := h1
  have a7 := Nat.le_of_ble_eq_true a6
  refine h.leads (cut_leads ?_ ?_)
  · simp only [ltE, TV.lt, CT.lt, It.lt, a5, a3, Bool.and_self]
  · simp only [ltB, flatR, mapB_lt, a5, a4, Bool.and_self]
theorem cut_app : ∀ (a b : List It) (off : Nat), (∀ x ∈ a, 0 < x.n) → cutAt (a ++ b) (widthL a + off) = (cutAt b off).map fun p => (a ++ p.1, p.2)
  | [], b, off, _ => by
    rw [show widthL [] = 0 from rfl, Nat.zero_add, List.nil_append]
    cases cutAt b off <;> rfl
  | x :: a, b, off, h => by
    have hx := h x (by simp)
    have hw : widthL (x :: a) = x.n + widthL a := by simp [widthL]
    obtain ⟨m, hm⟩ : ∃ m, widthL (x :: a) + off = m + 1 := ⟨widthL (x :: a) + off - 1, by omega⟩
    rw [hm, List.cons_append, cutAt, if_pos (by omega), show m + 1 - x.n = widthL a + off by omega, cut_app a b off fun y hy => h y (by simp [hy])]
    cases cutAt b off <;> rfl
theorem cut_pre {c : List It} : ∀ {l : List It} {off : Nat} {a b : List It}, cutAt l off = some (a, b) → cutAt (l ++ c) off = some (a, b ++ c)
  | l, 0, a, b, h => by
    have e : ∀ l : List It, cutAt l 0 = some ([], l) := fun l => by cases l <;> rfl
    rw [e] at h ⊢
    injection h with h
    injection h with h1 h2
    subst h1 h2
    rfl
  | [], _ + 1, _, _, h => by cases h
  | x :: xs, off + 1, a, b, h => by
    rw [List.cons_append]
    simp only [cutAt] at h ⊢
    split at h
    · rename_i hx
      rw [if_pos hx]
      cases hc : cutAt xs (off + 1 - x.n) with
      | none => rw [hc] at h; cases h
      | some p =>
        rw [hc] at h
        injection h with h
        injection h with h1 h2
        subst h1 h2
        rw [cut_pre hc]
        rfl
    · cases h
def okR (sz : Nat) (rows : List (List It0)) : Prop := ∀ r ∈ rows, widthO r = sz ∧ ∀ x ∈ r, 0 < x.n
theorem flatR_width {sz : Nat} {rows : List (List It0)} (h : okR sz rows) : widthL (flatR rows) = rows.length * sz ∧ ∀ x ∈ flatR rows, 0 < x.n := by
  refine ⟨?_, ?_⟩
  · unfold flatR
    rw [widthO_map]
    induction rows with
    | nil => simp [widthO]
    | cons r rows ih =>
      have h1 := (h r (by simp)).1
      have h2 := ih fun q hq => h q (by simp [hq])
      have e : widthO (r ++ rows.flatten) = widthO r + widthO rows.flatten := by simp [widthO]
      rw [List.flatten_cons, e, h1, h2, List.length_cons, Nat.add_mul]
      omega
  · intro x hx
    obtain ⟨y, hy, rfl⟩ := List.mem_map.1 hx
    obtain ⟨r, hr, hy⟩ := List.mem_flatten.1 hy
    exact (h r hr).2 y hy
theorem rows_split {rows : List (List It0)} {i : Nat} {r : List It0} (hr : rows[i]? = some r) : rows = rows.take i ++ r :: rows.drop (i + 1) ∧ (rows.take i).length = i := by
  obtain ⟨h1, h2⟩ := List.getElem?_eq_some_iff.1 hr
  refine ⟨?_, by rw [List.length_take]; omega⟩
  rw [← h2, List.getElem_cons_drop, List.take_append_drop]
theorem cut_rows {sz i : Nat} {rows : List (List It0)} {r : List It0} (hr : rows[i]? = some r) (hw : okR sz rows) {fo : Nat} {a b : List It} (h : cutAt (r.map It.b) fo = some (a, b)) : cutAt (flatR rows) (i * sz + fo) = some (flatR (rows.take i) ++ a, b ++ flatR (rows.drop (i + 1))) := by
  obtain ⟨h1, h2⟩ := rows_split hr
  have hpre : okR sz (rows.take i) := fun q hq => hw q (List.mem_of_mem_take hq)
  obtain ⟨g1, g2⟩ := flatR_width hpre
  rw [h2] at g1
  have e : flatR rows = flatR (rows.take i) ++ (r.map It.b ++ flatR (rows.drop (i + 1))) := by
    conv => lhs; rw [h1]
    rw [flatR_app]
    simp [flatR]
  rw [e, ← g1, cut_app _ _ _ g2, cut_pre h]
  rfl
theorem sub_row {sz i : Nat} {rows : List (List It0)} {r : List It0} (hr : rows[i]? = some r) (hw : okR sz rows) {fo n : Nat} {m : List It} (h : subAt (r.map It.b) fo n = some m) : subAt (flatR rows) (i * sz + fo) n = some m := by
  unfold subAt at h ⊢
  split at h
  · rename_i a b hc
    rw [cut_rows hr hw hc]
    cases hc2 : cutAt b n with
    | none => rw [hc2] at h; cases h
    | some p =>
      rw [hc2] at h
      injection h with h
      subst h
      simp only [cut_pre hc2, Option.map_some]
  · cases h
theorem upd_row {sz i : Nat} {rows : List (List It0)} {r r' : List It0} (hr : rows[i]? = some r) (hw : okR sz rows) {fo : Nat} {new : List It} (h : updAt (r.map It.b) fo new = some (r'.map It.b)) : updAt (flatR rows) (i * sz + fo) new = some (flatR (rows.set i r')) := by
  unfold updAt at h ⊢
  split at h
  · rename_i a b hc
    rw [cut_rows hr hw hc]
    cases hc2 : cutAt b (widthL new) with
    | none => rw [hc2] at h; cases h
    | some p =>
      rw [hc2] at h
      injection h with h
      simp only [cut_pre hc2, Option.map_some]
      obtain ⟨h1, h2⟩ := rows_split hr
      have hlt : i < rows.length := (List.getElem?_eq_some_iff.1 hr).1
      have e : rows.set i r' = rows.take i ++ r' :: rows.drop (i + 1) := by rw [List.set_eq_take_append_cons_drop, if_pos hlt]
      rw [e, flatR_app]
      congr 1
      have : flatR (r' :: rows.drop (i + 1)) = r'.map It.b ++ flatR (rows.drop (i + 1)) := by simp [flatR]
      rw [this, ← h]
      simp
  · cases h
theorem rep_flatR (n : Nat) (z : List It0) : rep n (z.map It.b) = flatR (List.replicate n z) := by
  induction n with
  | zero => rfl
  | succ n ih => rw [rep, ih, List.replicate_succ', flatR_snoc]
theorem set_range {α : Type} {f f' : Nat → α} {n i : Nat} (h : ∀ x, x ≠ i → x < n → f x = f' x) : ((List.range n).map f).set i (f' i) = (List.range n).map f' := by
  apply List.ext_getElem?
  intro x
  rw [List.getElem?_set]
  by_cases hx : i = x
  · subst hx
    rw [if_pos rfl]
    by_cases hn : i < n
    · rw [if_pos (by simpa using hn), List.getElem?_map, List.getElem?_range hn]; rfl
    · rw [if_neg (by simpa using hn), List.getElem?_map, List.getElem?_eq_none (by simpa using Nat.not_lt.1 hn)]; rfl
  · rw [if_neg hx, List.getElem?_map, List.getElem?_map]
    by_cases hn : x < n
    · rw [List.getElem?_range hn]
      simp [h x (Ne.symm hx) hn]
    · rw [List.getElem?_eq_none (by simpa using Nat.not_lt.1 hn)]; rfl
theorem range_some {α : Type} {f : Nat → α} {n i : Nat} (h : i < n) : ((List.range n).map f)[i]? = some (f i) := by rw [List.getElem?_map, List.getElem?_range h]; rfl

/-! ### loops that look for a flaw -/
def findc (chk : Nat → Int) : Nat → Nat → Int
  | 0, _ => 0
  | L + 1, i => if chk i = 0 then findc chk L (i + 1) else chk i
theorem findc_zero {chk : Nat → Int} : ∀ {L i : Nat}, findc chk L i = 0 ↔ ∀ j, i ≤ j → j < i + L → chk j = 0
  | 0, i => ⟨fun _ j h1 h2 => by omega, fun _ => rfl⟩
  | L + 1, i => by
    unfold findc
    by_cases h : chk i = 0
    · rw [if_pos h, findc_zero]
      refine ⟨fun hh j h1 h2 => ?_, fun hh j h1 h2 => hh j (by omega) (by omega)⟩
      by_cases hj : j = i
      · rw [hj]; exact h
      · exact hh j (by omega) (by omega)
    · rw [if_neg h]
      exact ⟨fun hh => absurd hh h, fun hh => hh i (Nat.le_refl _) (by omega)⟩
theorem findc_at {chk : Nat → Int} : ∀ {L i : Nat}, findc chk L i ≠ 0 → ∃ j, i ≤ j ∧ j < i + L ∧ (∀ x, i ≤ x → x < j → chk x = 0) ∧ chk j = findc chk L i
  | 0, i => fun h => absurd rfl h
  | L + 1, i => fun h => by
    unfold findc at h ⊢
    by_cases hc : chk i = 0
    · rw [if_pos hc] at h ⊢
      obtain ⟨j, h1, h2, h3, h4⟩ := findc_at h
      refine ⟨j, by omega, by omega, fun x hx1 hx2 => ?_, h4⟩
      by_cases hxi : x = i
      · rw [hxi]; exact hc
      · exact h3 x (by omega) hx2
    · rw [if_neg hc]
      exact ⟨i, Nat.le_refl _, by omega, fun x h1 h2 => by omega, rfl⟩
theorem loop_find {c : Code} {e : Nat} {b0 : St} (chk : Nat → Int) (L : Nat) (s : Nat → St) (bc : Int → St) (step : ∀ i, i < L → chk i = 0 → Rnd P I nt c (s i) .normal (s (i + 1))) (fin : Rnd P I nt c (s L) (.exit e) b0) (bad : ∀ i, i < L → chk i ≠ 0 → Rnd P I nt c (s i) .ret (bc (chk i))) :
    (findc chk L 0 = 0 → LoopTr P I nt c (s 0) (.exit e) b0) ∧ (findc chk L 0 ≠ 0 → LoopTr P I nt c (s 0) .ret (bc (findc chk L 0))) := by
  refine ⟨fun h => ?_, fun h => ?_⟩
  · have hz := findc_zero.1 h
    exact loop_up (by simp) s L (fun i hi => step i hi (hz i (Nat.zero_le _) (by omega))) fin
  · obtain ⟨j, _, h2, h3, h4⟩ := findc_at h
    have hb := bad j (by omega) (by rw [h4]; exact h)
    rw [h4] at hb
    exact loop_up (by simp) s j (fun i hi => step i (by omega) (h3 i (Nat.zero_le _) hi)) hb
end
end Go.Proofs.YtociocengfjioaaGreatDoor

/- Strings: a row of zeros, made byte by byte; the place of a byte. -/
namespace Go.Proofs.YtociocengfjioaaGreatDoor
open Go Go.RowKit
set_option linter.unusedVariables false
set_option linter.unusedSimpArgs false

abbrev rowU8 (x : Nat) : List It0 := [.lit (.int .u8 (x : Int))]
theorem u8_row {D : List Nat} {i : Nat} (h : i < D.length) : (D.map rowU8)[i]? = some (rowU8 (D.getD i 0)) := by
  rw [List.getElem?_map, List.getD_eq_getElem?_getD, List.getElem?_eq_getElem h]; rfl
theorem rowU8_ok {D : List Nat} : okR 1 (D.map rowU8) := by
  intro r hr
  obtain ⟨x, _, rfl⟩ := List.mem_map.1 hr
  exact ⟨rfl, fun y hy => by simp at hy; subst hy; exact Nat.one_pos⟩
theorem rowU8_w {D : List Nat} : ∀ r ∈ D.map rowU8, widthO r = 1 := by intro r hr; obtain ⟨x, _, rfl⟩ := List.mem_map.1 hr; rfl
theorem upd_u8 {D : List Nat} {i : Nat} (h : i < D.length) (x : Nat) : updAt (flatR (D.map rowU8)) (i * 1) [.b (.lit (.int .u8 (x : Int)))] = some (flatR ((D.set i x).map rowU8)) := by
  have := upd_row (sz := 1) (r := rowU8 (D.getD i 0)) (r' := rowU8 x) (new := [.b (.lit (.int .u8 (x : Int)))]) (u8_row h) rowU8_ok (fo := 0) rfl
  rw [← List.map_set] at this
  exact this
theorem zero_u8 (n : Nat) : flatR ((List.replicate n 0).map rowU8) = rep n [.b (.lit (.int .u8 0))] := by
  induction n with
  | zero => rfl
  | succ n ih =>
    rw [List.replicate_succ', List.map_append, List.map_singleton, ← flatR_snoc, ih]
    rfl
/-- bytes of which the first i are 48 and the others 0 -/
def zfl (n i : Nat) : List Nat := List.replicate i 48 ++ List.replicate (n - i) 0
theorem zfl_len {n i : Nat} (h : i ≤ n) : (zfl n i).length = n := by unfold zfl; simp; omega
theorem zfl_set {n i : Nat} (h : i < n) : (zfl n i).set i 48 = zfl n (i + 1) := by
  unfold zfl
  obtain ⟨k, hk⟩ : ∃ k, n - i = k + 1 := ⟨n - i - 1, by omega⟩
  rw [hk, show n - (i + 1) = k by omega, List.set_append_right _ _ (by simp), List.length_replicate, Nat.sub_self, List.replicate_succ, List.set_cons_zero, List.replicate_succ', List.append_assoc]
  rfl
section
variable {P : Program} {I : WInv}
/-- a string out of bytes that stay -/
theorem conv_u8 (s d e : TypeId) (xs : List Nat) (hs : P.underlying s = some (.slice e) := by kernel_rfl) (he : P.underlying e = some (.int .u8) := by kernel_rfl) (hd : P.underlying d = some .string := by kernel_rfl) : OpOb P (.conv s d) [tit (slI 1 (xs.map rowU8))] (tS xs) := by
  intro N w g vs hv
  obtain ⟨v, rfl, A, c, e1, h1, h2, h⟩ := all2T_one hv
  injection e1 with e1
  subst e1
  have hr : Rd .u8 w w.heap.size A xs.length xs := by
    refine ⟨rfl, fun h0 => ?_⟩
    obtain ⟨b, off, hA, hrow⟩ := h (by intro h3; rw [List.map_eq_nil_iff] at h3; rw [h3] at h0; simp at h0)
    have hb : b < w.heap.size := by
      obtain ⟨cs, T, fr, vs, _, q, _⟩ := hrow 0 _ (u8_row h0)
      exact (Array.getElem?_eq_some_iff.1 q).1
    refine ⟨b, off, hA, hb, fun j x hj => ?_⟩
    have hjl := (List.getElem?_eq_some_iff.1 hj).1
    obtain ⟨cs, T, fr, vs, _, q1, q2, q3⟩ := hrow j _ (u8_row hjl)
    have hx : xs.getD j 0 = x := by rw [List.getD_eq_getElem?_getD, hj]; rfl
    rw [hx] at q3
    obtain ⟨l1, l2, rfl, q4, q5⟩ := q3
    have q4 : l1 = [.int .u8 (x : Int)] := q4
    have q5 : l2 = [] := q5
    subst q4 q5
    simp only [World.cell?, q1]
    simp only [List.cons_append, List.nil_append, List.length_cons, List.length_nil, Nat.zero_add, Nat.mul_one] at q2
    have := congrArg (fun l => l[0]?) q2
    simp only [List.getElem?_take, List.getElem?_drop] at this
    simpa using this
  rw [List.length_map] at *
  exact ⟨_, w, run_string_rd hs he hd hr, Below.refl _ _, (rfl : [_] = [_])⟩

def zerst (n i : Nat) : Go.Proofs.YtociocengfjioaaGreatDoor.St := ⟨[(3, .cv (.one (.sl 2))), (0, .cv (.one (.b (.lit (.int .i64 (n : Int)))))), (4, .cv (.one (.b (.lit (.int .i64 (i : Int))))))], [(2, some ⟨5, some (1, n), flatR ((zfl n i).map rowU8)⟩)], 50⟩
theorem zeros_x (n : Nat) (hn : n ≤ 1000) : Sp Tryz.prog I 67 [ci (n : Int)] (tS (List.replicate n 48)) := by
  have lo0 : LoopTr Tryz.prog I 17 (loopC Tryz.prog 67 0) (zerst n 0) (.exit 0) ⟨[(3, .cv (.one (.sl 2)))], [(2, some ⟨5, some (1, n), flatR ((zfl n n).map rowU8)⟩)], 50⟩ := loop_up (by simp) (zerst n) n (fun i hi => by
    have hz : i < (zfl n i).length := by rw [zfl_len (by omega)]; exact hi
    unfold zerst
    rw [← zfl_set hi]
    exact Rnd.cut (n := 50) (show Rnd _ _ _ _ _ _ ⟨[(3, .cv (.one (.sl 2))), (0, .cv (.one (.b (.lit (.int .i64 (n : Int)))))), (4, .cv (.one (.b (.lit (.int .i64 ((i : Int) + 1))))))], [(2, some ⟨5, some (1, n), flatR (((zfl n i).set (i) (48)).map rowU8)⟩)], 60⟩ from rnd_run 1000 [pk (bT_lss 3 (i : Int) (n : Int)), ⟨.ix (i : Int) i n, ⟨rfl, hi⟩⟩, ⟨.upd (flatR ((zfl n i).map rowU8)) (i * 1) [.b (.lit (.int .u8 48))] (flatR (((zfl n i).set (i) (48)).map rowU8)), (upd_u8 (D := zfl n i) hz (48))⟩, pk (b_add 3 (i : Int) 1 ⟨by omega, by omega⟩)] (by kernel_rfl)) rfl) (by
    exact Rnd.cut (n := 50) (show Rnd _ _ _ _ _ _ ⟨[(3, .cv (.one (.sl 2)))], [(2, some ⟨5, some (1, n), flatR ((zfl n n).map rowU8)⟩)], 53⟩ from rnd_run 1000 [pk (bF_lss 3 (n : Int) (n : Int))] (by kernel_rfl)) rfl)
  have lo := lo0.post (freeze_leads (B := []) ((zfl n n).map rowU8) rfl (by rw [List.length_map, zfl_len (Nat.le_refl _)]) rowU8_w rfl)
  unfold zerst at lo
  have e0 : zfl n 0 = List.replicate n 0 := by unfold zfl; simp
  have e1 : zfl n n = List.replicate n 48 := by unfold zfl; simp
  rw [e0, e1, zero_u8] at lo
  exact sp_run (nt := 17) 1000 [⟨.mk (n : Int) n 1, ⟨rfl, by omega, by simp [maxLen]; omega⟩⟩, ⟨.mk (n : Int) n 1, ⟨rfl, by omega, by simp [maxLen]; omega⟩⟩, pl (lo), pk (conv_u8 93 9 5 (List.replicate n 48))] (by kernel_rfl)

end
end Go.Proofs.YtociocengfjioaaGreatDoor

/- Plain facts about the texts of fractions. -/
namespace Go.Proofs.YtociocengfjioaaGreatDoor
open Go Go.RowKit
set_option linter.unusedVariables false
set_option linter.unusedSimpArgs false

theorem nd_cons (c : Nat) (l : List Nat) : nd (c :: l) = (c - 48) * 10 ^ l.length + nd l := by
  have h := nd_append [c] l
  rw [show [c] ++ l = c :: l from rfl, show nd [c] = 0 * 10 + (c - 48) from rfl, Nat.zero_mul, Nat.zero_add] at h
  exact h
theorem nd_pos {l : List Nat} (h : Deci l) (h1 : l ≠ [48]) : 0 < nd l := by
  obtain ⟨h2, h3, h4⟩ := h
  cases l with
  | nil => exact absurd rfl h2
  | cons c r =>
    have hc := h3 c (by simp)
    by_cases h0 : c = 48
    · subst h0
      exfalso
      cases r with
      | nil => exact h1 rfl
      | cons a r => exact h4 ⟨by simp, by simp⟩
    · rw [nd_cons]
      have : 0 < (c - 48) * 10 ^ r.length := Nat.mul_pos (by omega) (Nat.pow_pos (by omega))
      omega
theorem nd_rep (k : Nat) : nd (List.replicate k 48) = 0 := by
  induction k with
  | zero => rfl
  | succ k ih => rw [List.replicate_succ, nd_cons, ih]; simp
theorem nd_ten (k : Nat) : nd (49 :: List.replicate k 48) = 10 ^ k := by
  rw [nd_cons, nd_rep, List.length_replicate]; simp
theorem nd_drop0 (l : List Nat) : nd (l.dropWhile (· == 48)) = nd l := by
  induction l with
  | nil => rfl
  | cons c r ih =>
    rw [List.dropWhile_cons]
    by_cases h : c = 48
    · subst h
      simp only [beq_self_eq_true, if_true]
      rw [ih, nd_cons]; simp
    · have : (c == 48) = false := by rw [beq_eq_false_iff_ne]; exact h
      rw [this]; rfl
theorem okD.rep (k : Nat) : okD (List.replicate k 48) := fun c hc => by have := List.eq_of_mem_replicate hc; omega
theorem okD.cons {c : Nat} {l : List Nat} (h : 48 ≤ c ∧ c ≤ 57) (hl : okD l) : okD (c :: l) := fun x hx => by
  rcases List.mem_cons.1 hx with h1 | h1
  · rw [h1]; exact h
  · exact hl x h1
theorem okD.app {a b : List Nat} (h : okD a) (hl : okD b) : okD (a ++ b) := fun x hx => (List.mem_append.1 hx).elim (h x) (hl x)
theorem okD.b8 {l : List Nat} (h : okD l) : B8 l := fun x hx => by have := h x hx; omega
theorem deci_ten (k : Nat) : Deci (49 :: List.replicate k 48) := ⟨by simp, okD.cons (by omega) (okD.rep k), by simp⟩
theorem deci_drop0 {l : List Nat} (h : okD l) (h1 : l.dropWhile (· == 48) ≠ []) : Deci (l.dropWhile (· == 48)) := by
  refine ⟨h1, fun c hc => h c ((List.dropWhile_sublist _).subset hc), fun g => ?_⟩
  have hd := List.head_dropWhile_not (· == 48) h1
  obtain ⟨g1, _⟩ := g
  generalize l.dropWhile (· == 48) = m at *
  cases m with
  | nil => exact h1 rfl
  | cons a m =>
    simp at g1 hd
    omega
theorem deci_neg {l : List Nat} (h : Deci l) : pNeg l = false ∧ pBody l = l := by
  have h1 : pNeg l = false := by
    unfold pNeg
    rw [beq_eq_false_iff_ne]
    have := h.2.1.getD (k := 0) (List.length_pos_iff.2 h.1)
    omega
  exact ⟨h1, by unfold pBody; rw [h1]; rfl⟩
theorem pa_deci {l : List Nat} (h : Deci l) (hl : l.length ≤ 400) : PA l (nd l : Nat) 0 := by
  obtain ⟨h1, h2⟩ := deci_neg h
  refine .inr (.inl ⟨hl, ?_, rfl, ?_⟩)
  · rw [h1, h2]; exact ⟨h, fun g => by cases g.1⟩
  · rw [h1, h2]; rfl
theorem pa_good {l : List Nat} (h : GoodB (pNeg l) (pBody l)) (hl : l.length ≤ 400) : PA l (sgn (pNeg l) (nd (pBody l))) 0 := .inr (.inl ⟨hl, h, rfl, rfl⟩)
theorem pa_bad {l : List Nat} (h : ¬ GoodB (pNeg l) (pBody l)) (hl : l.length ≤ 400) : PA l 0 1 := .inr (.inr ⟨hl, h, rfl, rfl⟩)
/-- a text that is read, but is no row of digits, is negative -/
theorem good_neg {l : List Nat} (h : GoodB (pNeg l) (pBody l)) (hd : ¬ Deci l) : sgn (pNeg l) (nd (pBody l)) < 0 := by
  cases hn : pNeg l with
  | false =>
    exfalso
    rw [hn] at h
    have : pBody l = l := by unfold pBody; rw [hn]; rfl
    rw [this] at h
    exact hd h.1
  | true =>
    rw [hn] at h
    have := nd_pos h.1 (fun e => h.2 ⟨rfl, e⟩)
    rw [sgn_t]
    omega
theorem pow_84 : (10 : Nat) ^ 800 < 4294967296 ^ 84 := by decide +kernel
theorem nd_lim {l : List Nat} (h : okD l) (hl : l.length ≤ 800) : Lim 84 (nd l : Nat) := by
  unfold Lim
  have h1 := nd_lt _ l rfl h
  rw [Int.natAbs_natCast]
  exact Nat.lt_of_lt_of_le h1 (Nat.le_trans (Nat.pow_le_pow_right (by omega) hl) (Nat.le_of_lt pow_84))
theorem ten_lim {k : Nat} (hk : k ≤ 800) : Lim 84 ((10 ^ k : Nat) : Int) := by
  unfold Lim
  rw [Int.natAbs_natCast]
  exact Nat.lt_of_le_of_lt (Nat.pow_le_pow_right (by omega) hk) pow_84
theorem ten_ne (k : Nat) : ((10 ^ k : Nat) : Int) ≠ 0 := by
  have : 0 < 10 ^ k := Nat.pow_pos (by omega)
  omega
theorem Lim.sgn {k : Nat} {n : Nat} (h : Lim k (n : Int)) (s : Bool) : Lim k (sgn s n) := by
  unfold Lim at *
  rw [sgn_natAbs]
  rwa [Int.natAbs_natCast] at h
theorem fmtL_b8 (z : Int) : B8 (fmtL z) := by
  intro c hc
  unfold fmtL decz at hc
  rcases List.mem_append.1 hc with h | h
  · split at h <;> simp at h; omega
  · exact dec_lt256 _ c h
theorem fmtL_nat (n : Nat) : fmtL (n : Int) = dec n := by
  unfold fmtL decz
  rw [Int.natAbs_natCast, if_neg (fun h => by have := of_decide_eq_true h.1; omega)]
  rfl
theorem fmtL_chars (z : Int) : ∀ c ∈ fmtL z, c = 45 ∨ (48 ≤ c ∧ c ≤ 57) := by
  intro c hc
  unfold fmtL decz at hc
  rcases List.mem_append.1 hc with h | h
  · split at h <;> simp at h; exact .inl h
  · exact .inr (dec_digit _ c h)
theorem fmtL_one (d : Nat) : fmtL (d : Int) = [49] ↔ d = 1 := by
  rw [fmtL_nat]
  constructor
  · intro h
    have := nd_dec d
    rw [h] at this
    exact this.symm
  · intro h; rw [h, dec_small (by omega)]
theorem fmtL_ne (z : Int) : 0 < (fmtL z).length := by
  unfold fmtL decz
  rw [List.length_append]
  have := dec_pos z.natAbs
  omega
theorem fmtL_len {z : Int} {k : Nat} (h : Lim k z) : (fmtL z).length ≤ 18 * k + 2 := by
  unfold fmtL
  by_cases h0 : z.natAbs = 0
  · rw [h0, decz_zero]; simp
  · have := dec_len18 z.natAbs h0
    have h2 := digits_len_le h
    unfold decz
    rw [List.length_append]
    split <;> simp <;> omega
theorem pa_fmt (z : Int) (h : (fmtL z).length ≤ 400) : PA (fmtL z) z 0 := by
  have := PA_decz (decide (z < 0)) z.natAbs h
  have e : sgn (decide (z < 0)) z.natAbs = z := by
    unfold sgn
    by_cases h0 : z < 0
    · rw [decide_eq_true h0]; simp; omega
    · rw [decide_eq_false h0]; simp; omega
  rwa [e] at this
theorem deci_dec (n : Nat) : Deci (dec n) := (dec_good false n (.inr rfl)).1
/-- the text of a fraction -/
def fmtQ (q : Rat) : List Nat := if q.den = 1 then fmtL q.num else fmtL q.num ++ ([47] ++ fmtL (q.den : Int))
theorem fmtQ_b8 (q : Rat) : B8 (fmtQ q) := by
  unfold fmtQ
  split
  · exact fmtL_b8 _
  · exact (fmtL_b8 _).app (B8.app (fun x hx => by simp at hx; omega) (fmtL_b8 _))
theorem fmtQ_slash (q : Rat) (h : q.den ≠ 1) : idxL 47 (fmtQ q) = some (fmtL q.num).length := by
  unfold fmtQ
  rw [if_neg h]
  exact idxL_app fun x hx => by have := fmtL_chars _ x hx; omega
theorem fmtQ_none (q : Rat) (h : q.den = 1) : idxL 47 (fmtQ q) = none ∧ idxL 46 (fmtQ q) = none := by
  unfold fmtQ
  rw [if_pos h]
  exact ⟨idxL_no fun x hx => by have := fmtL_chars _ x hx; omega, idxL_no fun x hx => by have := fmtL_chars _ x hx; omega⟩
end Go.Proofs.YtociocengfjioaaGreatDoor
