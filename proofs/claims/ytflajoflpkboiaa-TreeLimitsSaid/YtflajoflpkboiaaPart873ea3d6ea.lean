/- Texts of one proof, merged by a program: each lemma is proved for all values of its variables, under the premises that it states. -/
import Derived.Test.YtflajoflpkboiaaPartd757891d05
import Derived.Test.YtflajoflpkboiaaLim
import Derived.Test.YtflajoflpkboiaaOpen
import Derived.Test.YtflajoflpkboiaaInt64
/- Slices that stay, and changes of state. -/
namespace Go.Proofs.Ytflajoflpkboiaa
open Go Go.RowKit
set_option linter.unusedVariables false
set_option linter.unusedSimpArgs false

/-- a slice that stays: its elements, row by row -/
def slI (sz : Nat) (rows : List (List It0)) : Item where
 n := 1
 T := fun N w l => ∃ A c, l = [.slice A rows.length c] ∧ rows.length ≤ c ∧ c ≤ maxLen ∧ (rows ≠ [] → ∃ b off, A = some ⟨b, off, none⟩ ∧ ∀ i r, rows[i]? = some r → RowAt N w b (off + i * sz) r)
 step := fun hw hN ⟨A, c, e, h1, h2, h3⟩ => ⟨A, c, e, h1, h2, fun hr => let ⟨b, off, hA, h⟩ := h3 hr; ⟨b, off, hA, fun i r hi => (h i r hi).step hw hN⟩⟩
 len := fun ⟨A, c, e, _⟩ => by rw [e]; rfl
 one := fun ⟨A, c, e, _⟩ => by rw [e]; intro v hv; simp at hv; subst hv; rfl
def widthO (l : List It0) : Nat := (l.map It0.n).sum
theorem widthO_map (l : List It0) : widthL (l.map It.b) = widthO l := by simp only [widthL, widthO, List.map_map]; rfl
theorem semL0_split {N : Nat → Prop} {w : World} : ∀ {xs ys : List It0} {l : List Value}, semL0 N w (xs ++ ys) l → ∃ l1 l2, l = l1 ++ l2 ∧ semL0 N w xs l1 ∧ semL0 N w ys l2
 | [], _, l, h => ⟨[], l, rfl, rfl, h⟩
 | x :: xs, _, l, ⟨a, b, e, h1, h2⟩ => by
  obtain ⟨c, d, e2, h3, h4⟩ := semL0_split h2
  exact ⟨a ++ c, d, by rw [e, e2, List.append_assoc], ⟨a, c, rfl, h1, h3⟩, h4⟩
theorem semL0_len {N : Nat → Prop} {w : World} {xs : List It0} {l : List Value} (h : semL0 N w xs l) : l.length = widthO xs := by
 have := semL_len (g := G0) (semL0_semL h)
 rw [this, widthO_map]
theorem rows_at {N : Nat → Prop} {w : World} {sz : Nat} : ∀ {rows : List (List It0)} {vs : List Value}, (∀ r ∈ rows, widthO r = sz) → semL0 N w rows.flatten vs → vs.length = rows.length * sz ∧ ∀ i r, rows[i]? = some r → semL0 N w r ((vs.drop (i * sz)).take sz)
 | [], vs, _, h => by rw [show vs = [] from h]; exact ⟨by simp, fun i r hi => by simp at hi⟩
 | q :: rows, vs, hw, h => by
  obtain ⟨l1, l2, e, h1, h2⟩ := semL0_split (xs := q) (ys := rows.flatten) h
  have hl := semL0_len h1
  rw [hw q (by simp)] at hl
  obtain ⟨k1, k2⟩ := rows_at (fun r hr => hw r (by simp [hr])) h2
  refine ⟨by rw [e, List.length_append, hl, k1, List.length_cons, Nat.add_mul]; omega, fun i r hi => ?_⟩
  cases i with
  | zero =>
   simp at hi
   subst hi
   rw [e, Nat.zero_mul, List.drop_zero, List.take_append_of_le_length (by omega), List.take_of_length_le (by omega)]
   exact h1
  | succ i =>
   simp at hi
   have := k2 i r hi
   have e2 : (vs.drop ((i + 1) * sz)) = l2.drop (i * sz) := by
    rw [e, Nat.add_mul, Nat.one_mul, Nat.add_comm, ← List.drop_drop, ← hl, List.drop_left]
   rw [e2]
   exact this
section
variable {P : Program} {I : WInv}
theorem sl_len (t e ty : TypeId) (sz : Nat) (rows : List (List It0)) (ht : P.underlying t = some (.slice e)) : OpOb P (.len #[t] ty) [tit (slI sz rows)] (li rows.length) := by
 intro N w g vs hv
 obtain ⟨v, rfl, A, c, e1, h⟩ := all2T_one hv
 injection e1 with e1
 subst e1
 exact ⟨_, w, by simp [OpK.run, Builtin.len_, underlying_run ht, goInt], Below.refl _ _, (rfl : [_] = [_])⟩
theorem sl_idx (t e : TypeId) (sz : Nat) (rows : List (List It0)) (i : Nat) (z : Int) (r : List It0) (ht : P.underlying t = some (.slice e)) (hs : sizeB P e = some sz) (hz : z = (i : Int)) (hr : rows[i]? = some r) : OpOb P (.idxA t) [tit (slI sz rows), li z] (.cv (.one (.fp r))) := by
 intro N w g vs hv
 obtain ⟨v, x, rfl, ⟨A, c, e1, hc1, hc2, h⟩, h2⟩ := all2T_two hv
 injection e1 with e1
 subst e1 hz
 have h2 : [x] = [.int .i64 (i : Int)] := h2
 injection h2 with h2
 subst h2
 have hlt : i < rows.length := (List.getElem?_eq_some_iff.1 hr).1
 obtain ⟨b, off, hA, hrow⟩ := h (by intro h0; rw [h0] at hlt; simp at hlt)
 subst hA
 refine ⟨.pointer (some ⟨b, off + i * sz, none⟩), w, ?_, Below.refl _ _, ⟨b, off + i * sz, rfl, (hrow i r hr).step (WStep.refl _ _) (fun _ h => .inl h)⟩⟩
 simp [OpK.run, Instr.indexAt, asIntOf, underlying_run ht, sizeB_run hs, addr_add, hlt]
theorem sl_ix (t e : TypeId) (sz : Nat) (rows : List (List It0)) (i : Nat) (z : Int) (r : List It0) (hr : rows[i]? = some r) (hz : z = (i : Int) := by omega) (ht : P.underlying t = some (.slice e) := by kernel_rfl) (hs : sizeB P e = some sz := by kernel_rfl) : OpOb P (.idxA t) [tit (slI sz rows), li z] (.cv (.one (.fp r))) := sl_idx t e sz rows i z r ht hs hz hr
variable {nt : Nat}
theorem look_cons {t : Nat} {v : TV} {E : Env} {s : Nat} : look ((t, v) :: E) s = if t = s then some v else look E s := by
 simp only [look]
 by_cases h : t = s
 ·subst h; simp
 ·have : Nat.beq t s = false := by cases hb : Nat.beq t s with
   | false => rfl
   | true => exact absurd (Nat.eq_of_beq_eq_true hb) h
  simp [h, this]
theorem lookB_cons {t : Nat} {v : Option Ent} {B : Bxs} {s : Nat} : lookB ((t, v) :: B) s = if t = s then v else lookB B s := by
 simp only [lookB]
 by_cases h : t = s
 ·subst h; simp
 ·have : Nat.beq t s = false := by cases hb : Nat.beq t s with
   | false => rfl
   | true => exact absurd (Nat.eq_of_beq_eq_true hb) h
  simp [h, this]
/-- nil becomes an empty slice of one's own -/
theorem nil_leads {t : Nat} {E : Env} {B : Bxs} {nx : Nat} (T : TypeId) (s : Nat) : Leads I nt ⟨(t, tlit (.slice none 0 0)) :: E, B, nx⟩ ⟨(t, .cv (.one (.sl nx))) :: E, (nx, some ⟨T, some (s, 0), []⟩) :: B, nx + 1⟩ := by
 rintro N0 w0 a w ⟨N, g, h1, h2⟩
 have hfr : g nx = none := h2 nx (Nat.le_refl _)
 have hx := upg_ext (v := .sl none 0 0) hfr
 refine ⟨N, upg g nx (.sl none 0 0), { h1 with slots := ?_, boxes := ?_, inj := ?_, rig := fun k v hv => hx k v (h1.rig k v hv) }, ?_⟩
 ·intro q v hv
  rw [look_cons] at hv
  by_cases hq : t = q
  ·subst hq
   rw [if_pos rfl] at hv
   injection hv with hv
   subst hv
   have := h1.slots t _ (by rw [look_cons, if_pos rfl])
   have this : [a.tmps.getD t undef] = [.slice none 0 0] := this
   injection this with this
   exact ⟨none, 0, 0, upg_same, by rw [this]⟩
  ·rw [if_neg hq] at hv
   exact TV.step (h1.slots q v (by rw [look_cons, if_neg hq]; exact hv)) (WStep.refl _ _) (fun _ h => h) hx
 ·intro k e he
  rw [lookB_cons] at he
  by_cases hk : nx = k
  ·subst hk
   rw [if_pos rfl] at he
   injection he with he
   subst he
   exact ⟨_, upg_same, .inl ⟨s, 0, rfl, rfl, rfl, rfl⟩⟩
  ·rw [if_neg hk] at he
   exact (h1.boxes k e he).keep (WStep.refl _ _) (fun _ h => h) (fun b hb => (h1.boxes k e he).notN hb) (fun b hb => rfl) hx
 ·intro k j e e' b q1 q2 q3 q4
  rw [lookB_cons] at q1 q2
  by_cases hk : nx = k
  ·subst hk
   rw [upg_blk] at q3
   cases q3
  ·by_cases hj : nx = j
   ·subst hj
    rw [upg_blk] at q4
    cases q4
   ·rw [if_neg hk] at q1
    rw [if_neg hj] at q2
    unfold blkOf at q3 q4
    rw [upg_other (Ne.symm hk)] at q3
    rw [upg_other (Ne.symm hj)] at q4
    exact h1.inj k j e e' b q1 q2 q3 q4
 ·intro k hk
  change nx + 1 ≤ k at hk
  show upg g nx _ k = none
  rw [upg_other (by omega : k ≠ nx)]
  exact h2 k (show nx ≤ k by omega)
/-- a slice of one's own is given out of hand: it stays -/
theorem freeze_leads {t k : Nat} {E : Env} {B : Bxs} {nx T sz n : Nat} {its : List It} (rows : List (List It0)) (hits : its = rows.flatten.map It.b) (hn : n = rows.length) (hw : ∀ r ∈ rows, widthO r = sz) (hk : lookB B k = none) :
  Leads I nt ⟨(t, .cv (.one (.sl k))) :: E, (k, some ⟨T, some (sz, n), its⟩) :: B, nx⟩ ⟨(t, tit (slI sz rows)) :: E, B, nx⟩ := by
 rintro N0 w0 a w ⟨N, g, h1, h2⟩
 have hbox := h1.boxes k ⟨T, some (sz, n), its⟩ (by rw [lookB_cons, if_pos rfl])
 obtain ⟨A, c, xs, g1, g2, g3, g4⟩ := hbox.own rfl
 let N' : Nat → Prop := fun b => N b ∨ A.map (·.block) = some b
 have hN : ∀ b, N b → N' b := fun b hb => .inl hb
 have hkb : blkOf g k = A.map (·.block) := by unfold blkOf; rw [g1]; cases A <;> rfl
 have hslot := h1.slots t _ (by rw [look_cons, if_pos rfl])
 obtain ⟨A', n', c', e1, e2⟩ := hslot
 rw [g1] at e1
 injection e1 with e1
 injection e1 with e1 e3 e4
 subst e1 e3 e4
 injection e2 with e2
 have hother : ∀ j e b, lookB B j = some e → blkOf g j = some b → A.map (·.block) ≠ some b := by
  intro j e b hj hb hc
  have hjk : j ≠ k := by intro h; rw [h, hk] at hj; cases hj
  have := h1.inj j k e ⟨T, some (sz, n), its⟩ b (by rw [lookB_cons, if_neg (Ne.symm hjk)]; exact hj) (by rw [lookB_cons, if_pos rfl]) hb (by rw [hkb]; exact hc)
  exact hjk this
 have old : ∀ j e, lookB B j = some e → lookB ((k, some (⟨T, some (sz, n), its⟩ : Ent)) :: B) j = some e := by
  intro j e hj
  have hjk : j ≠ k := by intro h; rw [h, hk] at hj; cases hj
  rw [lookB_cons, if_neg (Ne.symm hjk)]; exact hj
 refine ⟨N', g, ⟨?_, ?_, ?_, ?_, ?_, fun b hb => .inl (h1.sup b hb), h1.below, h1.tmps, h1.defers, I.step (WStep.refl _ _) hN h1.inv, h1.rig⟩, h2⟩
 ·intro q v hv
  rw [look_cons] at hv
  by_cases hq : t = q
  ·subst hq
   rw [if_pos rfl] at hv
   injection hv with hv
   subst hv
   rw [e2]
   subst hits hn
   rcases g2 with ⟨rfl, h0, rfl, rfl⟩ | ⟨b, cs, rfl, r2, r3, r4, r5, r6, r7⟩
   ·exact ⟨none, 0, rfl, by omega, by simp [maxLen], fun hr => absurd (List.eq_nil_of_length_eq_zero h0) hr⟩
   ·refine ⟨_, c, rfl, r3, r4, fun _ => ⟨b, 0, rfl, fun i r hi => ?_⟩⟩
    obtain ⟨k1, k2⟩ := rows_at hw (semL_semL0 g3)
    have k3 := k2 i r hi
    have hlen := semL0_len k3
    rw [hw r (List.mem_of_getElem? hi)] at hlen
    refine ⟨cs, T, (0, 0), _, .inr rfl, r2, ?_, semL0_step (WStep.refl _ _) hN k3⟩
    rw [Nat.zero_add, hlen, ← r6]
    have hi' : i < rows.length := (List.getElem?_eq_some_iff.1 hi).1
    have hm : i * sz + sz ≤ rows.length * sz := by
     have : (i + 1) * sz ≤ rows.length * sz := Nat.mul_le_mul_right _ hi'
     rw [Nat.add_mul, Nat.one_mul] at this
     exact this
    rw [List.drop_take, List.take_take, Nat.min_eq_left (by omega)]
  ·rw [if_neg hq] at hv
   exact TV.step (h1.slots q v (by rw [look_cons, if_neg hq]; exact hv)) (WStep.refl _ _) hN (GExt.refl _)
 ·intro j e he
  have hj := h1.boxes j e (old j e he)
  refine hj.keep (WStep.refl _ _) hN ?_ (fun b hb => rfl) (GExt.refl _)
  rintro b hb (hn' | hn')
  ·exact hj.notN hb hn'
  ·exact hother j e b he hb hn'
 ·intro i j e e' b q1 q2
  exact h1.inj i j e e' b (old i e q1) (old j e' q2)
 ·rintro b (hb | hb)
  ·exact h1.low b hb
  ·exact hbox.lt (by rw [hkb]; exact hb)
 ·rintro b (hb | hb)
  ·exact h1.sub b hb
  ·exact .inr ⟨(g4 b hb).2.2, hbox.lt (by rw [hkb]; exact hb)⟩
end
end Go.Proofs.Ytflajoflpkboiaa

/- A slice of one's own under another name. -/
namespace Go.Proofs.Ytflajoflpkboiaa
open Go Go.RowKit
set_option linter.unusedVariables false
set_option linter.unusedSimpArgs false

/-- does not speak of the box k -/
def It.av (k : Nat) : It → Bool
 | .ptr j _ => !Nat.beq j k
 | .sl j => !Nat.beq j k
 | _ => true
def CT.av (k : Nat) : CT → Bool
 | .one x => x.av k
 | .ag l => l.all (It.av k)
def TV.av (k : Nat) : TV → Bool
 | .cv c => c.av k
 | .tu l => l.all (CT.av k)
def avE (k : Nat) : Env → Bool
 | [] => true
 | (_, v) :: r => v.av k && avE k r
def avB (k : Nat) : Bxs → Bool
 | [] => true
 | (j, some e) :: r => !Nat.beq j k && e.its.all (It.av k) && avB k r
 | (_, none) :: r => avB k r
section
variable {I : WInv} {nt : Nat}
def renG (g : Gh) (k k' : Nat) : Gh := fun x => if x = k then g k' else g x
theorem renG_at {g : Gh} {k k' j : Nat} (h : Nat.beq j k = false) : renG g k k' j = g j := by
 unfold renG
 rw [if_neg]
 intro e
 rw [e, Nat.beq_refl] at h
 cases h
theorem renG_same {g : Gh} {k k' : Nat} : renG g k k' k = g k' := by unfold renG; rw [if_pos rfl]
theorem not_t {b : Bool} (h : (!b) = true) : b = false := by simpa using h
theorem It.av_sem {N : Nat → Prop} {w : World} {g : Gh} {k k' : Nat} {x : It} {l : List Value} (h : x.av k = true) (hs : x.sem N w g l) : x.sem N w (renG g k k') l := by
 cases x with
 | b x => exact hs
 | fp x => exact hs
 | ptr j off => obtain ⟨b, h1, h2⟩ := hs; exact ⟨b, by unfold blkOf; rw [renG_at (not_t h)]; exact h1, h2⟩
 | sl j => obtain ⟨A, n, c, h1, h2⟩ := hs; exact ⟨A, n, c, by rw [renG_at (not_t h)]; exact h1, h2⟩
theorem semL_av {N : Nat → Prop} {w : World} {g : Gh} {k k' : Nat} : ∀ {xs : List It} {l : List Value}, xs.all (It.av k) = true → semL N w g xs l → semL N w (renG g k k') xs l
 | [], _, _, h => h
 | x :: xs, _, hn, ⟨l1, l2, e, h1, h2⟩ => by
  simp only [List.all_cons, Bool.and_eq_true] at hn
  exact ⟨l1, l2, e, It.av_sem hn.1 h1, semL_av hn.2 h2⟩
theorem CT.av_sem {N : Nat → Prop} {w : World} {g : Gh} {k k' : Nat} {c : CT} {v : Value} (h : c.av k = true) (hs : c.sem N w g v) : c.sem N w (renG g k k') v := by
 cases c with
 | one x => exact It.av_sem h hs
 | ag l => obtain ⟨vs, e, h1⟩ := hs; exact ⟨vs, e, semL_av h h1⟩
theorem all2_av {N : Nat → Prop} {w : World} {g : Gh} {k k' : Nat} : ∀ {cs : List CT} {vs : List Value}, cs.all (CT.av k) = true → all2 (CT.sem N w g) cs vs → all2 (CT.sem N w (renG g k k')) cs vs
 | [], _, _, h => h
 | c :: cs, _, hn, ⟨v, l, e, h1, h2⟩ => by
  simp only [List.all_cons, Bool.and_eq_true] at hn
  exact ⟨v, l, e, CT.av_sem hn.1 h1, all2_av hn.2 h2⟩
theorem TV.av_sem {N : Nat → Prop} {w : World} {g : Gh} {k k' : Nat} {t : TV} {v : Value} (h : t.av k = true) (hs : t.sem N w g v) : t.sem N w (renG g k k') v := by
 cases t with
 | cv c => exact CT.av_sem h hs
 | tu l => obtain ⟨vs, e, h1⟩ := hs; exact ⟨vs, e, all2_av h h1⟩
theorem avE_look {k : Nat} : ∀ {E : Env} {t : Nat} {v : TV}, avE k E = true → look E t = some v → v.av k = true
 | [], _, _, _, h => by cases h
 | (q, u) :: r, t, v, h, hv => by
  simp only [avE, Bool.and_eq_true] at h
  simp only [look] at hv
  split at hv
  ·injection hv with hv; rw [← hv]; exact h.1
  ·exact avE_look h.2 hv
theorem avB_look {k : Nat} : ∀ {B : Bxs} {t : Nat} {e : Ent}, avB k B = true → lookB B t = some e → Nat.beq t k = false ∧ e.its.all (It.av k) = true
 | [], _, _, _, h => by cases h
 | (j, some u) :: r, t, e, h, hv => by
  simp only [avB, Bool.and_eq_true] at h
  simp only [lookB] at hv
  split at hv
  ·rename_i hk
   injection hv with hv
   rw [← hv, ← Nat.eq_of_beq_eq_true hk]
   exact ⟨not_t h.1.1, h.1.2⟩
  ·exact avB_look h.2 hv
 | (j, none) :: r, t, e, h, hv => by
  simp only [avB] at h
  simp only [lookB] at hv
  split at hv
  ·cases hv
  ·exact avB_look h hv
theorem BoxSem.ren {N : Nat → Prop} {w : World} {g : Gh} {base : Nat → Prop} {k k' j : Nat} {e : Ent} (h : BoxSem N w g base j e) (hg : renG g k k' j = g j) (he : e.its.all (It.av k) = true) : BoxSem N w (renG g k k') base j e := by
 obtain ⟨gv, h1, h2⟩ := h
 refine ⟨gv, by rw [hg]; exact h1, ?_⟩
 rcases h2 with ⟨s, n, r1, r2, r3, r4⟩ | ⟨b, cs, l, r1, r2, r3, r4⟩
 ·exact .inl ⟨s, n, r1, r2, r3, semL_av he r4⟩
 ·exact .inr ⟨b, cs, l, r1, r2, semL_av he r3, r4⟩
theorem ren_leads {t k k' : Nat} {E : Env} {B : Bxs} {e : Ent} {nx : Nat} (hE : avE k E = true) (hB : avB k B = true) (he : e.its.all (It.av k) = true) (hk : k < nx) (hk' : lookB B k' = none) (h2k : 2 ≤ k := by omega) :
  Leads I nt ⟨(t, .cv (.one (.sl k'))) :: E, (k', some e) :: B, nx⟩ ⟨(t, .cv (.one (.sl k))) :: E, (k, some e) :: B, nx⟩ := by
 rintro N0 w0 a w ⟨N, g, h1, h2⟩
 have old : ∀ j e', lookB B j = some e' → lookB ((k', some e) :: B) j = some e' := by
  intro j e' hj
  have : k' ≠ j := by intro h; rw [h, hj] at hk'; cases hk'
  rw [lookB_cons, if_neg this]; exact hj
 refine ⟨N, renG g k k', { h1 with slots := ?_, boxes := ?_, inj := ?_, rig := fun x v hv => by have := w0.lo x v hv; unfold renG; rw [if_neg (by omega)]; exact h1.rig x v hv }, ?_⟩
 ·intro q v hv
  rw [look_cons] at hv
  by_cases hq : t = q
  ·subst hq
   rw [if_pos rfl] at hv
   injection hv with hv
   subst hv
   obtain ⟨A, n, c, e1, e2⟩ := h1.slots t _ (by rw [look_cons, if_pos rfl])
   exact ⟨A, n, c, by rw [renG_same]; exact e1, e2⟩
  ·rw [if_neg hq] at hv
   exact TV.av_sem (avE_look hE hv) (h1.slots q v (by rw [look_cons, if_neg hq]; exact hv))
 ·intro j e' hj
  rw [lookB_cons] at hj
  by_cases hjk : k = j
  ·subst hjk
   rw [if_pos rfl] at hj
   injection hj with hj
   subst hj
   obtain ⟨gv, r1, r2⟩ := h1.boxes k' e (by rw [lookB_cons, if_pos rfl])
   refine ⟨gv, by rw [renG_same]; exact r1, ?_⟩
   rcases r2 with ⟨s, n, q1, q2, q3, q4⟩ | ⟨b, cs, l, q1, q2, q3, q4⟩
   ·exact .inl ⟨s, n, q1, q2, q3, semL_av he q4⟩
   ·exact .inr ⟨b, cs, l, q1, q2, semL_av he q3, q4⟩
  ·rw [if_neg hjk] at hj
   obtain ⟨f1, f2⟩ := avB_look hB hj
   exact (h1.boxes j e' (old j e' hj)).ren (renG_at f1) f2
 · -- distinct
  have key : ∀ j e' b, lookB ((k, some e) :: B) j = some e' → blkOf (renG g k k') j = some b → ∃ i e'', lookB ((k', some e) :: B) i = some e'' ∧ blkOf g i = some b ∧ (j = k ∧ i = k' ∨ j ≠ k ∧ i = j ∧ lookB B j = some e') := by
   intro j e' b q1 q2
   rw [lookB_cons] at q1
   by_cases hjk : k = j
   ·subst hjk
    refine ⟨k', e, by rw [lookB_cons, if_pos rfl], ?_, .inl ⟨rfl, rfl⟩⟩
    unfold blkOf at q2 ⊢; rw [renG_same] at q2; exact q2
   ·rw [if_neg hjk] at q1
    refine ⟨j, e', old j e' q1, ?_, .inr ⟨Ne.symm hjk, rfl, q1⟩⟩
    unfold blkOf at q2 ⊢; rw [renG_at (avB_look hB q1).1] at q2; exact q2
  intro i j e1 e2 b q1 q2 q3 q4
  obtain ⟨i', f1, r1, r2, r3⟩ := key i e1 b q1 q3
  obtain ⟨j', f2, s1, s2, s3⟩ := key j e2 b q2 q4
  have := h1.inj i' j' f1 f2 b r1 s1 r2 s2
  rcases r3 with ⟨a1, a2⟩ | ⟨a1, a2, a3⟩ <;> rcases s3 with ⟨b1, b2⟩ | ⟨b1, b2, b3⟩
  ·rw [a1, b1]
  ·exfalso; rw [a2, b2] at this; rw [← this, hk'] at b3; cases b3
  ·exfalso; rw [a2, b2] at this; rw [this, hk'] at a3; cases a3
  ·rw [← a2, ← b2]; exact this
 ·intro x hx
  show renG g k k' x = none
  have hx : nx ≤ x := hx
  unfold renG
  rw [if_neg (by omega)]
  exact h2 x hx
/-- names beyond nx' are forgotten -/
theorem cut_leads {E : Env} {B : Bxs} {nx nx' : Nat} (hE : ltE nx' E = true) (hB : ltB nx' B = true) (h2n : 2 ≤ nx' := by omega) : Leads I nt ⟨E, B, nx⟩ ⟨E, B, nx'⟩ := by
 rintro N0 w0 a w ⟨N, g, h1, h2⟩
 refine ⟨N, cutG g nx', { h1 with slots := fun t v hv => TV.lt_sem (ltE_look hE hv) (h1.slots t v hv), boxes := fun k e he => (h1.boxes k e he).cut (ltB_look hB he).1 (ltB_look hB he).2, inj := ?_, rig := fun x v hv => by rw [cutG_at (Nat.lt_of_lt_of_le (w0.lo x v hv) h2n)]; exact h1.rig x v hv }, fun k hk => by show cutG g nx' k = none; unfold cutG; rw [if_neg (Nat.not_lt.2 hk)]⟩
 intro k j e e' bb q1 q2 q3 q4
 rw [cutG_blk (ltB_look hB q1).1] at q3
 rw [cutG_blk (ltB_look hB q2).1] at q4
 exact h1.inj k j e e' bb q1 q2 q3 q4
end
end Go.Proofs.Ytflajoflpkboiaa

/- Loops that count, states that say less, lengths and rows of mapped lists. -/
namespace Go.Proofs.Ytflajoflpkboiaa
open Go Go.RowKit
set_option linter.unusedVariables false
set_option linter.unusedSimpArgs false

theorem map_some {α β : Type} {f : α → β} {xs : List α} {i : Nat} {x : α} (h : xs[i]? = some x) : (xs.map f)[i]? = some (f x) := by rw [List.getElem?_map, h]; rfl
section
variable {P : Program} {I : WInv} {nt : Nat}
theorem loop_from {c : Code} {ex : Exit} {b : St} (hex : ex ≠ .normal) (s : Nat → St) (i0 m : Nat) (h0 : i0 ≤ m) (step : ∀ i, i0 ≤ i → i < m → Rnd P I nt c (s i) .normal (s (i + 1))) (fin : Rnd P I nt c (s m) ex b) : LoopTr P I nt c (s i0) ex b := by
 refine loop_tr (ι := Nat) hex s (fun i => m - i) (fun i => i0 ≤ i ∧ i ≤ m) i0 ⟨Nat.le_refl _, h0⟩ ?_
 intro i hi
 by_cases h : i < m
 ·exact .inl ⟨i + 1, ⟨by have := hi.1; omega, h⟩, by show m - (i + 1) < m - i; omega, step i hi.1 h⟩
 ·have : i = m := by have := hi.2; omega
  subst this
  exact .inr fin
theorem loop_up {c : Code} {ex : Exit} {b : St} (hex : ex ≠ .normal) (s : Nat → St) (m : Nat) (step : ∀ i, i < m → Rnd P I nt c (s i) .normal (s (i + 1))) (fin : Rnd P I nt c (s m) ex b) : LoopTr P I nt c (s 0) ex b :=
 loop_from hex s 0 m (Nat.zero_le _) (fun i _ h => step i h) fin
theorem sl_len2 (t e ty : TypeId) (sz : Nat) (rows : List (List It0)) (n : Int) (ht : P.underlying t = some (.slice e)) (hn : (rows.length : Int) = n) : OpOb P (.len #[t] ty) [tit (slI sz rows)] (li n) := by
 subst hn
 exact sl_len t e ty sz rows ht
theorem sl_ln (t e ty : TypeId) (sz : Nat) (rows : List (List It0)) (n : Int) (ht : P.underlying t = some (.slice e) := by kernel_rfl) (hn : (rows.length : Int) = n := by rw [List.length_map] <;> omega) : OpOb P (.len #[t] ty) [tit (slI sz rows)] (li n) := sl_len2 t e ty sz rows n ht hn
/-! ### types that say less -/
def TVle (v v' : TV) : Prop := ∀ N w g x, v.sem N w g x → v'.sem N w g x
def CTle (v v' : CT) : Prop := ∀ N w g x, v.sem N w g x → v'.sem N w g x
def ILe (l l' : List It) : Prop := ∀ N w g x, semL N w g l x → semL N w g l' x
def XLe (x y : It) : Prop := ∀ N w g l, x.sem N w g l → y.sem N w g l
def X0le (x y : It0) : Prop := ∀ N w l, x.sem N w l → y.sem N w l
def I0le (l l' : List It0) : Prop := ∀ N w x, semL0 N w l x → semL0 N w l' x
def ItLe (i j : Item) : Prop := ∀ N w l, i.T N w l → j.T N w l
theorem TVle.refl {v : TV} : TVle v v := fun _ _ _ _ h => h
theorem CTle.refl {v : CT} : CTle v v := fun _ _ _ _ h => h
theorem ILe.refl {v : List It} : ILe v v := fun _ _ _ _ h => h
theorem I0le.refl {v : List It0} : I0le v v := fun _ _ _ h => h
theorem ItLe.refl {v : Item} : ItLe v v := fun _ _ _ h => h
theorem CTle.tv {c c' : CT} (h : CTle c c') : TVle (.cv c) (.cv c') := h
theorem ILe.ag {l l' : List It} (h : ILe l l') : CTle (.ag l) (.ag l') := fun N w g _ ⟨vs, e, hv⟩ => ⟨vs, e, h N w g vs hv⟩
theorem XLe.one {x y : It} (h : XLe x y) : CTle (.one x) (.one y) := fun N w g v hv => h N w g [v] hv
theorem ItLe.x {i j : Item} (h : ItLe i j) : XLe (.b (.it i)) (.b (.it j)) := fun N w _ l hl => h N w l hl
theorem ItLe.x0 {i j : Item} (h : ItLe i j) : X0le (.it i) (.it j) := fun N w l hl => h N w l hl
theorem XLe.refl {x : It} : XLe x x := fun _ _ _ _ h => h
theorem X0le.refl {x : It0} : X0le x x := fun _ _ _ h => h
theorem ILe.cons {x y : It} {l l' : List It} (h : XLe x y) (hl : ILe l l') : ILe (x :: l) (y :: l') := fun N w g _ ⟨a, b, e, h1, h2⟩ => ⟨a, b, e, h N w g a h1, hl N w g b h2⟩
theorem I0le.cons {x y : It0} {l l' : List It0} (h : X0le x y) (hl : I0le l l') : I0le (x :: l) (y :: l') := fun N w _ ⟨a, b, e, h1, h2⟩ => ⟨a, b, e, h N w a h1, hl N w b h2⟩
theorem I0le.map {l l' : List It0} (h : I0le l l') : ILe (l.map It.b) (l'.map It.b) := fun N w g x hx => semL0_semL (h N w x (semL_semL0 hx))
def WkA : List CT → List CT → Prop
 | [], [] => True
 | c :: l, c' :: l' => CTle c c' ∧ WkA l l'
 | _, _ => False
theorem WkA.all2 {N : Nat → Prop} {w : World} {g : Gh} : ∀ {l l' : List CT} {vs : List Value}, WkA l l' → all2 (CT.sem N w g) l vs → all2 (CT.sem N w g) l' vs
 | [], [], _, _, h => h
 | c :: l, c' :: l', _, hw, ⟨v, r, e, h1, h2⟩ => ⟨v, r, e, hw.1 N w g v h1, WkA.all2 hw.2 h2⟩
 | [], _ :: _, _, hw, _ => hw.elim
 | _ :: _, [], _, hw, _ => hw.elim
theorem Sp.wk {f : FuncId} {args args' : List CT} {res : TV} (h : Sp P I f args res) (hw : WkA args' args) : Sp P I f args' res := h.sub fun _ _ _ hv => hw.all2 hv
theorem Sp.rs {f : FuncId} {args : List CT} {res res' : TV} (h : Sp P I f args res) (hr : TVle res res') : Sp P I f args res' := h.res fun N w v hv => hr N w G0 v hv
theorem tu_le {l l' : List CT} (h : WkA l l') : TVle (.tu l) (.tu l') := fun _ _ _ _ ⟨vs, e, hv⟩ => ⟨vs, e, h.all2 hv⟩
/-! ### states that say less -/
def WkE : Env → Env → Prop
 | [], [] => True
 | (t, v) :: E, (t', v') :: E' => t = t' ∧ TVle v v' ∧ WkE E E'
 | _, _ => False
def WkB : Bxs → Bxs → Prop
 | [], [] => True
 | (k, some e) :: B, (k', some e') :: B' => k = k' ∧ e.T = e'.T ∧ e.sl = e'.sl ∧ ILe e.its e'.its ∧ WkB B B'
 | _, _ => False
theorem WkE.look : ∀ {E E' : Env} {t : Nat} {v' : TV}, WkE E E' → look E' t = some v' → ∃ v, Go.Proofs.Ytflajoflpkboiaa.look E t = some v ∧ TVle v v'
 | [], [], _, _, _, h => by cases h
 | (t, v) :: E, (t', v') :: E', q, u, hw, h => by
  obtain ⟨rfl, h1, h2⟩ := hw
  rw [look_cons] at h ⊢
  by_cases hq : t = q
  ·rw [if_pos hq] at h ⊢
   injection h with h
   subst h
   exact ⟨v, rfl, h1⟩
  ·rw [if_neg hq] at h ⊢
   exact WkE.look h2 h
 | [], _ :: _, _, _, hw, _ => hw.elim
 | _ :: _, [], _, _, hw, _ => hw.elim
theorem WkB.look : ∀ {B B' : Bxs} {k : Nat} {e' : Ent}, WkB B B' → lookB B' k = some e' → ∃ e, lookB B k = some e ∧ e.T = e'.T ∧ e.sl = e'.sl ∧ ILe e.its e'.its
 | [], [], _, _, _, h => by cases h
 | (k, some e) :: B, (k', some e') :: B', q, u, hw, h => by
  obtain ⟨rfl, h1, h2, h3, h4⟩ := hw
  rw [lookB_cons] at h ⊢
  by_cases hq : k = q
  ·rw [if_pos hq] at h ⊢
   injection h with h
   subst h
   exact ⟨e, rfl, h1, h2, h3⟩
  ·rw [if_neg hq] at h ⊢
   exact WkB.look h4 h
 | [], _ :: _, _, _, hw, _ => hw.elim
 | (_, some _) :: _, [], _, _, hw, _ => hw.elim
 | (_, none) :: _, [], _, _, hw, _ => hw.elim
 | (_, none) :: _, (_, _) :: _, _, _, hw, _ => hw.elim
 | (_, some _) :: _, (_, none) :: _, _, _, hw, _ => hw.elim
theorem BoxSem.le {N : Nat → Prop} {w : World} {g : Gh} {base : Nat → Prop} {k : Nat} {e e' : Ent} (h : BoxSem N w g base k e) (hT : e.T = e'.T) (hs : e.sl = e'.sl) (hi : ILe e.its e'.its) : BoxSem N w g base k e' := by
 obtain ⟨T, sl, its⟩ := e
 obtain ⟨T', sl', its'⟩ := e'
 simp only at hT hs hi
 subst hT hs
 obtain ⟨gv, h1, h2⟩ := h
 refine ⟨gv, h1, ?_⟩
 rcases h2 with ⟨s, n, r1, r2, r3, r4⟩ | ⟨b, cs, l, r1, r2, r3, r4⟩
 ·exact .inl ⟨s, n, r1, r2, r3, hi _ _ _ _ r4⟩
 ·exact .inr ⟨b, cs, l, r1, r2, hi _ _ _ _ r3, r4⟩
theorem weak_leads {E E' : Env} {B B' : Bxs} {nx : Nat} (hE : WkE E E') (hB : WkB B B') : Leads I nt ⟨E, B, nx⟩ ⟨E', B', nx⟩ := by
 rintro N0 w0 a w ⟨N, g, h1, h2⟩
 refine ⟨N, g, { h1 with slots := ?_, boxes := ?_, inj := ?_ }, h2⟩
 ·intro t v hv
  obtain ⟨u, hu, hle⟩ := hE.look hv
  exact hle N w g _ (h1.slots t u hu)
 ·intro k e he
  obtain ⟨u, hu, q1, q2, q3⟩ := hB.look he
  exact (h1.boxes k u hu).le q1 q2 q3
 ·intro k j e e' b q1 q2 q3 q4
  obtain ⟨u, hu, _⟩ := hB.look q1
  obtain ⟨v, hv, _⟩ := hB.look q2
  exact h1.inj k j u v b hu hv q3 q4
theorem LoopTr.pre {c : Code} {a a' b : St} {ex : Exit} (hl : Leads I nt a a') (h : LoopTr P I nt c a' ex b) : LoopTr P I nt c a ex b := fun N0 w0 act w hs => h N0 w0 act w (hl N0 w0 act w hs)
theorem LoopTr.post {c : Code} {a b b' : St} {ex : Exit} (h : LoopTr P I nt c a ex b) (hl : Leads I nt b b') : LoopTr P I nt c a ex b' := fun N0 w0 act w hs => wp_mono (h N0 w0 act w hs) fun e a' w' ⟨h1, h2⟩ => ⟨h1, hl N0 w0 a' w' h2⟩
theorem Leads.trans {a b c : St} (h : Leads I nt a b) (h' : Leads I nt b c) : Leads I nt a c := fun N0 w0 act w hs => h' N0 w0 act w (h N0 w0 act w hs)

/-! ### slices of one's own, row by row -/
def flatR (rows : List (List It0)) : List It := rows.flatten.map It.b
theorem flatR_snoc (rows : List (List It0)) (r : List It0) : flatR rows ++ r.map It.b = flatR (rows ++ [r]) := by simp [flatR]
theorem flatR_app (a b : List (List It0)) : flatR (a ++ b) = flatR a ++ flatR b := by simp [flatR]
theorem mapB_av (k : Nat) (l : List It0) : (l.map It.b).all (It.av k) = true := by
 rw [List.all_eq_true]; intro x hx; obtain ⟨y, _, rfl⟩ := List.mem_map.1 hx; rfl
theorem mapB_noPtr (l : List It0) : (l.map It.b).all It.noPtr = true := by
 rw [List.all_eq_true]; intro x hx; obtain ⟨y, _, rfl⟩ := List.mem_map.1 hx; rfl
theorem mapB_lt (k : Nat) (l : List It0) : (l.map It.b).all (It.lt k) = true := by
 rw [List.all_eq_true]; intro x hx; obtain ⟨y, _, rfl⟩ := List.mem_map.1 hx; rfl
/-- the slice's new name goes back to the old one -/
theorem Rnd.grow {c : Code} {s : St} {ex : Exit} {t k k' nx n T sz : Nat} {E : Env} {B : Bxs} {rows : List (List It0)} {row : List It0} (h : Rnd P I nt c s ex ⟨(t, .cv (.one (.sl k'))) :: E, (k', some ⟨T, some (sz, rows.length + 1), flatR rows ++ row.map It.b⟩) :: B, nx⟩)
  (h1 : (avE k E && avB k B && ltE n E && ltB n B && Nat.blt k n && Nat.blt k nx && Nat.ble 2 k) = true) (h2 : lookB B k' = none) : Rnd P I nt c s ex ⟨(t, .cv (.one (.sl k))) :: E, (k, some ⟨T, some (sz, (rows ++ [row]).length), flatR (rows ++ [row])⟩) :: B, n⟩ := by
 simp only [Bool.and_eq_true] at h1
 obtain ⟨⟨⟨⟨⟨⟨a1, a2⟩, a3⟩, a4⟩, a5⟩, a6⟩, a7⟩ := h1
 have a8 := Nat.le_of_ble_eq_true a7
 have a9 := blt_lt a5
 rw [flatR_snoc] at h
 rw [show rows.length + 1 = (rows ++ [row]).length by simp] at h
 have r := h.leads (ren_leads (k := k) a1 a2 (mapB_av k _) (blt_lt a6) h2)
 refine r.leads (cut_leads ?_ ?_)
 ·simp only [ltE, TV.lt, CT.lt, It.lt, a5, a3, Bool.and_self]
 ·simp only [ltB, flatR, mapB_lt, a5, a4, Bool.and_self]
theorem Rnd.cut {c : Code} {s : St} {ex : Exit} {t k nx n T : Nat} {sl : Option (Nat × Nat)} {E : Env} {B : Bxs} {rows : List (List It0)} (h : Rnd P I nt c s ex ⟨(t, .cv (.one (.sl k))) :: E, (k, some ⟨T, sl, flatR rows⟩) :: B, nx⟩)
  (h1 : (ltE n E && ltB n B && Nat.blt k n && Nat.ble 2 n) = true) : Rnd P I nt c s ex ⟨(t, .cv (.one (.sl k))) :: E, (k, some ⟨T, sl, flatR rows⟩) :: B, n⟩ := by
 simp only [Bool.and_eq_true] at h1
 obtain ⟨⟨⟨a3, a4⟩, a5⟩, a6⟩ := h1
 have a7 := Nat.le_of_ble_eq_true a6
 refine h.leads (cut_leads ?_ ?_)
 ·simp only [ltE, TV.lt, CT.lt, It.lt, a5, a3, Bool.and_self]
 ·simp only [ltB, flatR, mapB_lt, a5, a4, Bool.and_self]
theorem cut_app : ∀ (a b : List It) (off : Nat), (∀ x ∈ a, 0 < x.n) → cutAt (a ++ b) (widthL a + off) = (cutAt b off).map fun p => (a ++ p.1, p.2)
 | [], b, off, _ => by
  rw [show widthL [] = 0 from rfl, Nat.zero_add, List.nil_append]
  cases cutAt b off <;> rfl
 | x :: a, b, off, h => by
  have hx := h x (by simp)
  have hw : widthL (x :: a) = x.n + widthL a := by simp [widthL]
  obtain ⟨m, hm⟩ : ∃ m, widthL (x :: a) + off = m + 1 := ⟨widthL (x :: a) + off - 1, by omega⟩
  rw [hm, List.cons_append, cutAt, if_pos (by omega), show m + 1 - x.n = widthL a + off by omega, cut_app a b off fun y hy => h y (by simp [hy])]
  cases cutAt b off <;> rfl
theorem cut_pre {c : List It} : ∀ {l : List It} {off : Nat} {a b : List It}, cutAt l off = some (a, b) → cutAt (l ++ c) off = some (a, b ++ c)
 | l, 0, a, b, h => by
  have e : ∀ l : List It, cutAt l 0 = some ([], l) := fun l => by cases l <;> rfl
  rw [e] at h ⊢
  injection h with h
  injection h with h1 h2
  subst h1 h2
  rfl
 | [], _ + 1, _, _, h => by cases h
 | x :: xs, off + 1, a, b, h => by
  rw [List.cons_append]
  simp only [cutAt] at h ⊢
  split at h
  ·rename_i hx
   rw [if_pos hx]
   cases hc : cutAt xs (off + 1 - x.n) with
   | none => rw [hc] at h; cases h
   | some p =>
    rw [hc] at h
    injection h with h
    injection h with h1 h2
    subst h1 h2
    rw [cut_pre hc]
    rfl
  ·cases h
def okR (sz : Nat) (rows : List (List It0)) : Prop := ∀ r ∈ rows, widthO r = sz ∧ ∀ x ∈ r, 0 < x.n
theorem flatR_width {sz : Nat} {rows : List (List It0)} (h : okR sz rows) : widthL (flatR rows) = rows.length * sz ∧ ∀ x ∈ flatR rows, 0 < x.n := by
 refine ⟨?_, ?_⟩
 ·unfold flatR
  rw [widthO_map]
  induction rows with
  | nil => simp [widthO]
  | cons r rows ih =>
   have h1 := (h r (by simp)).1
   have h2 := ih fun q hq => h q (by simp [hq])
   have e : widthO (r ++ rows.flatten) = widthO r + widthO rows.flatten := by simp [widthO]
   rw [List.flatten_cons, e, h1, h2, List.length_cons, Nat.add_mul]
   omega
 ·intro x hx
  obtain ⟨y, hy, rfl⟩ := List.mem_map.1 hx
  obtain ⟨r, hr, hy⟩ := List.mem_flatten.1 hy
  exact (h r hr).2 y hy
theorem rows_split {rows : List (List It0)} {i : Nat} {r : List It0} (hr : rows[i]? = some r) : rows = rows.take i ++ r :: rows.drop (i + 1) ∧ (rows.take i).length = i := by
 obtain ⟨h1, h2⟩ := List.getElem?_eq_some_iff.1 hr
 refine ⟨?_, by rw [List.length_take]; omega⟩
 rw [← h2, List.getElem_cons_drop, List.take_append_drop]
theorem cut_rows {sz i : Nat} {rows : List (List It0)} {r : List It0} (hr : rows[i]? = some r) (hw : okR sz rows) {fo : Nat} {a b : List It} (h : cutAt (r.map It.b) fo = some (a, b)) : cutAt (flatR rows) (i * sz + fo) = some (flatR (rows.take i) ++ a, b ++ flatR (rows.drop (i + 1))) := by
 obtain ⟨h1, h2⟩ := rows_split hr
 have hpre : okR sz (rows.take i) := fun q hq => hw q (List.mem_of_mem_take hq)
 obtain ⟨g1, g2⟩ := flatR_width hpre
 rw [h2] at g1
 have e : flatR rows = flatR (rows.take i) ++ (r.map It.b ++ flatR (rows.drop (i + 1))) := by
  conv => lhs; rw [h1]
  rw [flatR_app]
  simp [flatR]
 rw [e, ← g1, cut_app _ _ _ g2, cut_pre h]
 rfl
theorem sub_row {sz i : Nat} {rows : List (List It0)} {r : List It0} (hr : rows[i]? = some r) (hw : okR sz rows) {fo n : Nat} {m : List It} (h : subAt (r.map It.b) fo n = some m) : subAt (flatR rows) (i * sz + fo) n = some m := by
 unfold subAt at h ⊢
 split at h
 ·rename_i a b hc
  rw [cut_rows hr hw hc]
  cases hc2 : cutAt b n with
  | none => rw [hc2] at h; cases h
  | some p =>
   rw [hc2] at h
   injection h with h
   subst h
   simp only [cut_pre hc2, Option.map_some]
 ·cases h
theorem upd_row {sz i : Nat} {rows : List (List It0)} {r r' : List It0} (hr : rows[i]? = some r) (hw : okR sz rows) {fo : Nat} {new : List It} (h : updAt (r.map It.b) fo new = some (r'.map It.b)) : updAt (flatR rows) (i * sz + fo) new = some (flatR (rows.set i r')) := by
 unfold updAt at h ⊢
 split at h
 ·rename_i a b hc
  rw [cut_rows hr hw hc]
  cases hc2 : cutAt b (widthL new) with
  | none => rw [hc2] at h; cases h
  | some p =>
   rw [hc2] at h
   injection h with h
   simp only [cut_pre hc2, Option.map_some]
   obtain ⟨h1, h2⟩ := rows_split hr
   have hlt : i < rows.length := (List.getElem?_eq_some_iff.1 hr).1
   have e : rows.set i r' = rows.take i ++ r' :: rows.drop (i + 1) := by rw [List.set_eq_take_append_cons_drop, if_pos hlt]
   rw [e, flatR_app]
   congr 1
   have : flatR (r' :: rows.drop (i + 1)) = r'.map It.b ++ flatR (rows.drop (i + 1)) := by simp [flatR]
   rw [this, ← h]
   simp
 ·cases h
theorem set_range {α : Type} {f f' : Nat → α} {n i : Nat} (h : ∀ x, x ≠ i → x < n → f x = f' x) : ((List.range n).map f).set i (f' i) = (List.range n).map f' := by
 apply List.ext_getElem?
 intro x
 rw [List.getElem?_set]
 by_cases hx : i = x
 ·subst hx
  rw [if_pos rfl]
  by_cases hn : i < n
  ·rw [if_pos (by simpa using hn), List.getElem?_map, List.getElem?_range hn]; rfl
  ·rw [if_neg (by simpa using hn), List.getElem?_map, List.getElem?_eq_none (by simpa using Nat.not_lt.1 hn)]; rfl
 ·rw [if_neg hx, List.getElem?_map, List.getElem?_map]
  by_cases hn : x < n
  ·rw [List.getElem?_range hn]
   simp [h x (Ne.symm hx) hn]
  ·rw [List.getElem?_eq_none (by simpa using Nat.not_lt.1 hn)]; rfl
theorem range_some {α : Type} {f : Nat → α} {n i : Nat} (h : i < n) : ((List.range n).map f)[i]? = some (f i) := by rw [List.getElem?_map, List.getElem?_range h]; rfl

/-! ### loops that look for a flaw -/
def findc (chk : Nat → Int) : Nat → Nat → Int
 | 0, _ => 0
 | L + 1, i => if chk i = 0 then findc chk L (i + 1) else chk i
theorem findc_zero {chk : Nat → Int} : ∀ {L i : Nat}, findc chk L i = 0 ↔ ∀ j, i ≤ j → j < i + L → chk j = 0
 | 0, i => ⟨fun _ j h1 h2 => by omega, fun _ => rfl⟩
 | L + 1, i => by
  unfold findc
  by_cases h : chk i = 0
  ·rw [if_pos h, findc_zero]
   refine ⟨fun hh j h1 h2 => ?_, fun hh j h1 h2 => hh j (by omega) (by omega)⟩
   by_cases hj : j = i
   ·rw [hj]; exact h
   ·exact hh j (by omega) (by omega)
  ·rw [if_neg h]
   exact ⟨fun hh => absurd hh h, fun hh => hh i (Nat.le_refl _) (by omega)⟩
theorem findc_at {chk : Nat → Int} : ∀ {L i : Nat}, findc chk L i ≠ 0 → ∃ j, i ≤ j ∧ j < i + L ∧ (∀ x, i ≤ x → x < j → chk x = 0) ∧ chk j = findc chk L i
 | 0, i => fun h => absurd rfl h
 | L + 1, i => fun h => by
  unfold findc at h ⊢
  by_cases hc : chk i = 0
  ·rw [if_pos hc] at h ⊢
   obtain ⟨j, h1, h2, h3, h4⟩ := findc_at h
   refine ⟨j, by omega, by omega, fun x hx1 hx2 => ?_, h4⟩
   by_cases hxi : x = i
   ·rw [hxi]; exact hc
   ·exact h3 x (by omega) hx2
  ·rw [if_neg hc]
   exact ⟨i, Nat.le_refl _, by omega, fun x h1 h2 => by omega, rfl⟩
theorem loop_find {c : Code} {e : Nat} {b0 : St} (chk : Nat → Int) (L : Nat) (s : Nat → St) (bc : Int → St) (step : ∀ i, i < L → chk i = 0 → Rnd P I nt c (s i) .normal (s (i + 1))) (fin : Rnd P I nt c (s L) (.exit e) b0) (bad : ∀ i, i < L → chk i ≠ 0 → Rnd P I nt c (s i) .ret (bc (chk i))) :
  (findc chk L 0 = 0 → LoopTr P I nt c (s 0) (.exit e) b0) ∧ (findc chk L 0 ≠ 0 → LoopTr P I nt c (s 0) .ret (bc (findc chk L 0))) := by
 refine ⟨fun h => ?_, fun h => ?_⟩
 ·have hz := findc_zero.1 h
  exact loop_up (by simp) s L (fun i hi => step i hi (hz i (Nat.zero_le _) (by omega))) fin
 ·obtain ⟨j, _, h2, h3, h4⟩ := findc_at h
  have hb := bad j (by omega) (by rw [h4]; exact h)
  rw [h4] at hb
  exact loop_up (by simp) s j (fun i hi => step i (by omega) (h3 i (Nat.zero_le _) hi)) hb
end
end Go.Proofs.Ytflajoflpkboiaa

/- Plain facts about fractions. -/
namespace Go.Proofs.Ytflajoflpkboiaa
set_option linter.unusedVariables false

theorem rat_num_pos {n d : Int} (hd : 0 < d) : (Rat.divInt n d).num = n.fdiv (Nat.gcd n.natAbs d.natAbs : Nat) := by
 rw [Rat.num_divInt, Int.sign_eq_one_of_pos hd, Int.one_mul, Int.fdiv_eq_ediv_of_nonneg _ (Int.natCast_nonneg _), Int.gcd, Nat.gcd_comm]
theorem rat_den_pos {n d : Int} (hd : 0 < d) : ((Rat.divInt n d).den : Int) = d.fdiv (Nat.gcd n.natAbs d.natAbs : Nat) := by
 rw [Rat.den_divInt, if_neg (by omega), Int.fdiv_eq_ediv_of_nonneg _ (Int.natCast_nonneg _), Int.gcd, Nat.gcd_comm]
 have : d = (d.natAbs : Int) := by omega
 rw [Int.natCast_ediv, ← this]
theorem rat_neg (n d : Int) : Rat.divInt (-n) (-d) = Rat.divInt n d := Rat.neg_divInt_neg n d
theorem gcd_ne {n d : Int} (hd : d ≠ 0) : ((Nat.gcd n.natAbs d.natAbs : Nat) : Int) ≠ 0 := by
 have : 0 < Nat.gcd n.natAbs d.natAbs := Nat.gcd_pos_of_pos_right _ (by omega)
 omega
/-- the numerator and the denominator of n / d are no larger than n and d -/
theorem num_le (n d : Int) : (Rat.divInt n d).num.natAbs ≤ n.natAbs := by
 rw [Rat.num_divInt]
 have h1 : ((d.sign * n) / (d.gcd n : Int)).natAbs ≤ (d.sign * n).natAbs := by
  rcases Nat.eq_zero_or_pos (d.gcd n) with h | h
  ·rw [h]; simp
  ·have hd : ((d.gcd n : Nat) : Int) ∣ d.sign * n := Int.dvd_trans (Int.gcd_dvd_right ..) (Int.dvd_mul_left _ _)
   rw [Int.natAbs_ediv_of_dvd hd]
   exact Nat.div_le_self _ _
 refine Nat.le_trans h1 ?_
 rw [Int.natAbs_mul]
 have : d.sign.natAbs ≤ 1 := by rw [Int.natAbs_sign]; split <;> omega
 calc d.sign.natAbs * n.natAbs ≤ 1 * n.natAbs := Nat.mul_le_mul_right _ this
  _ = n.natAbs := Nat.one_mul _
theorem den_le {n d : Int} (hd : d ≠ 0) : (Rat.divInt n d).den ≤ d.natAbs := by
 rw [Rat.den_divInt, if_neg hd]
 exact Nat.div_le_self _ _
theorem lim_num {k : Nat} {n d : Int} (h : Lim k n) : Lim k (Rat.divInt n d).num := Nat.lt_of_le_of_lt (num_le n d) h
theorem lim_den {k : Nat} {n d : Int} (h : Lim k d) (hk : 0 < k) : Lim k ((Rat.divInt n d).den : Int) := by
 unfold Lim at *
 rw [Int.natAbs_natCast]
 by_cases hd : d = 0
 ·subst hd
  rw [Rat.divInt_zero]
  show 1 < _
  calc 1 < 4294967296 ^ 1 := by decide
   _ ≤ 4294967296 ^ k := Nat.pow_le_pow_right (by decide) hk
 ·exact Nat.lt_of_le_of_lt (den_le hd) h
theorem den_pos' (q : Rat) : (0 : Int) < q.den := by have := q.den_pos; omega
theorem rat_self (q : Rat) : Rat.divInt q.num q.den = q := Rat.num_divInt_den q
/-- 1 is small -/
theorem lim_one {k : Nat} (hk : 0 < k) : Lim k 1 := by
 unfold Lim
 calc Int.natAbs 1 < 4294967296 ^ 1 := by decide
  _ ≤ 4294967296 ^ k := Nat.pow_le_pow_right (by decide) hk
theorem lim_zero (k : Nat) : Lim k 0 := by unfold Lim; exact Nat.pow_pos (by decide)
theorem lim_fdiv {k : Nat} {n g : Int} (h : Lim k n) (hg : 0 < g) : Lim k (n.fdiv g) := by
 unfold Lim at *
 refine Nat.lt_of_le_of_lt ?_ h
 rw [Int.fdiv_eq_ediv_of_nonneg _ (by omega)]
 rcases Int.le_total 0 n with hn | hn
 ·have h1 : n / g ≤ n := Int.ediv_le_self _ hn
  have h2 : 0 ≤ n / g := Int.ediv_nonneg hn (by omega)
  omega
 ·have h1 : n ≤ n / g := by
   have := Int.le_ediv_iff_mul_le (a := n) (b := n) hg
   refine this.2 ?_
   have : n * g ≤ n * 1 := Int.mul_le_mul_of_nonpos_left hn (by omega)
   omega
  have h2 : n / g ≤ 0 := by
   have := Int.ediv_le_ediv hg hn
   simpa using this
  omega
theorem lim_gcd {k : Nat} {n d : Int} (h : Lim k d) (hd : d ≠ 0) : Lim k ((Nat.gcd n.natAbs d.natAbs : Nat) : Int) := by
 unfold Lim at *
 rw [Int.natAbs_natCast]
 exact Nat.lt_of_le_of_lt (Nat.gcd_le_right _ (by omega)) h
end Go.Proofs.Ytflajoflpkboiaa

/- Fractions of small numbers: smallWord, smallParts, small. -/
namespace Go.Proofs.Ytflajoflpkboiaa
open Go Go.RowKit
set_option linter.unusedVariables false

/-- an integer that smallWord takes -/
def sP (z : Int) : IntP := ⟨fun w s A n c => ∃ ds, Rd .u32 w w.heap.size A n ds ∧ n = ds.length ∧ n ≤ 1 ∧ n ≤ c ∧ c ≤ 9223372036854775807 ∧ val ds < 2147483648 ∧ z = sgn s (val ds), fun hw ⟨ds, h1, h2⟩ => ⟨ds, rd_step hw h1, h2⟩⟩
/-- an integer that it does not take -/
def lP (z : Int) : IntP := ⟨fun w s A n c => ∃ ds, Rd .u32 w w.heap.size A n ds ∧ W32 ds ∧ n = ds.length ∧ n ≤ 1048576 ∧ n ≤ c ∧ c ≤ 9223372036854775807 ∧ z = sgn s (val ds) ∧ (2 ≤ ds.length ∨ ∃ d, ds = [d] ∧ 2147483648 ≤ d), fun hw ⟨ds, h1, h2⟩ => ⟨ds, rd_step hw h1, h2⟩⟩
theorem val_one (d : Nat) : val [d] = d := by simp [val]
theorem sP_lt {w : World} {s : Bool} {A : Option Addr} {n c : Nat} {z : Int} (h : (sP z).T w s A n c) : -2147483648 < z ∧ z < 2147483648 := by
 obtain ⟨ds, _, _, _, _, _, h1, rfl⟩ := h
 unfold sgn
 split <;> omega
theorem num_sP {z : Int} : Num (ip (sP z)) z := by
 intro N w l hl
 obtain ⟨s, A, n, c, e, ds, h1, h2, h3, h4, h5, h6, h7⟩ := semL_one hl
 refine ⟨s, A, n, c, e, ⟨ds, h1, ?_, h4, h5, h7⟩, by omega⟩
 intro d hd
 match ds, h2, h3, h6, hd with
 | [], _, _, _, hd => cases hd
 | [e], _, _, h6, hd => rw [val_one] at h6; simp at hd; omega
 | _ :: _ :: _, h2, h3, _, _ => simp at h2; omega
theorem num_lP {z : Int} : Num (ip (lP z)) z := by
 intro N w l hl
 obtain ⟨s, A, n, c, e, ds, h1, h2, h3, h4, h5, h6, h7, _⟩ := semL_one hl
 exact ⟨s, A, n, c, e, ⟨ds, h1, h2, h5, h6, h7⟩, h4⟩
/-- every integer is taken or not -/
theorem small_or {x : List It} {z : Int} (h : Num x z) {N : Nat → Prop} {w : World} {l : List Value} (hl : semL N w G0 x l) : semL N w G0 (ip (sP z)) l ∨ semL N w G0 (ip (lP z)) l := by
 obtain ⟨s, A, n, c, e, ⟨ds, h1, h2, h3, h4, h5⟩, h6⟩ := h N w l hl
 have hn : n = ds.length := h1.1.symm
 by_cases hs : ds.length ≤ 1 ∧ val ds < 2147483648
 ·exact .inl (semL_one' ⟨s, A, n, c, e, ds, h1, hn, by omega, h3, h4, hs.2, h5⟩)
 ·refine .inr (semL_one' ⟨s, A, n, c, e, ds, h1, h2, hn, h6, h3, h4, h5, ?_⟩)
  match ds, hs with
  | [], hs => exact absurd ⟨by simp, by simp [val]⟩ hs
  | [d], hs => right; refine ⟨d, rfl, ?_⟩; rw [val_one] at hs; simp at hs; exact hs
  | _ :: _ :: _, _ => left; simp
section
variable {I : WInv} {z n d : Int}
abbrev dsT (s : Bool) (ds : List Nat) : CT := .ag [.b (.lit (.bool s)), .b (.it (DS ds))]
theorem word_nil (s : Bool) : Sp Try.prog I 76 [dsT s []] (.tu [ci 0, cb true]) :=
 sp_run (nt := 29) 1000 [pk (ds_len 26 71 3 [] Try.underlying26)] (by kernel_rfl)
theorem word_neg (d : Nat) (h : d < 2147483648) : Sp Try.prog I 76 [dsT true [d]] (.tu [ci (-d), cb true]) :=
 sp_run (nt := 29) 1000 [pk (ds_len 26 71 3 [d] Try.underlying26),
  pk (ds_idx 26 71 [d] 0 0 d Try.underlying26 (by kernel_rfl) rfl rfl), pk (pu_load 71 d (by kernel_rfl)), pk (u32_lss 71 d 2147483648 true (by simpa using h)),
  pk (ds_idx 26 71 [d] 0 0 d Try.underlying26 (by kernel_rfl) rfl rfl), pk (pu_load 71 d (by kernel_rfl)), pk (u32_i64 71 2 d Try.underlying71 Try.underlying2 (by omega)), pk (u_neg d ⟨by omega, by omega⟩)] (by kernel_rfl)
theorem word_pos (d : Nat) (h : d < 2147483648) : Sp Try.prog I 76 [dsT false [d]] (.tu [ci d, cb true]) :=
 sp_run (nt := 29) 1000 [pk (ds_len 26 71 3 [d] Try.underlying26),
  pk (ds_idx 26 71 [d] 0 0 d Try.underlying26 (by kernel_rfl) rfl rfl), pk (pu_load 71 d (by kernel_rfl)), pk (u32_lss 71 d 2147483648 true (by simpa using h)),
  pk (ds_idx 26 71 [d] 0 0 d Try.underlying26 (by kernel_rfl) rfl rfl), pk (pu_load 71 d (by kernel_rfl)), pk (u32_i64 71 2 d Try.underlying71 Try.underlying2 (by omega))] (by kernel_rfl)
theorem word_big (s : Bool) (d : Nat) (h : 2147483648 ≤ d) : Sp Try.prog I 76 [dsT s [d]] (.tu [ci 0, cb false]) :=
 sp_run (nt := 29) 1000 [pk (ds_len 26 71 3 [d] Try.underlying26),
  pk (ds_idx 26 71 [d] 0 0 d Try.underlying26 (by kernel_rfl) rfl rfl), pk (pu_load 71 d (by kernel_rfl)), pk (u32_lss 71 d 2147483648 false (by simpa using h))] (by kernel_rfl)
theorem word_long (s : Bool) (ds : List Nat) (h : 2 ≤ ds.length) : Sp Try.prog I 76 [dsT s ds] (.tu [ci 0, cb false]) :=
 sp_run (nt := 29) 1000 [pk (ds_len 26 71 3 ds Try.underlying26), pk (b_eql 3 ds.length 0 false (decide_eq_false (by omega))), pk (b_eql 3 ds.length 1 false (decide_eq_false (by omega)))] (by kernel_rfl)
theorem open_ds {q : IntP} {ok : Bool × List Nat → Prop} (h : ∀ w s A n c, q.T w s A n c → ∃ ds, Rd .u32 w w.heap.size A n ds ∧ n = ds.length ∧ n ≤ c ∧ c ≤ 9223372036854775807 ∧ ok (s, ds)) :
  ∀ N w vs, all2 (CT.sem N w G0) [.ag (ip q)] vs → ∃ i, ok i ∧ all2 (CT.sem N w G0) [dsT i.1 i.2] vs := by
 intro N w vs hv
 obtain ⟨l, rfl, h1⟩ := args1 hv
 obtain ⟨s, A, n, c, rfl, h2⟩ := semL_one h1
 obtain ⟨ds, h3, rfl, hc1, hc2, h4⟩ := h w s A n c h2
 exact ⟨(s, ds), h4, _, _, rfl, ⟨_, rfl, [.bool s], [.slice A ds.length c], rfl, rfl, semL_one' ⟨A, c, rfl, h3, hc1, hc2⟩⟩, rfl⟩
theorem smallWord_yes : Sp Try.prog I 76 [.ag (ip (sP z))] (.tu [ci z, cb true]) := by
 refine Sp.ex (ok := fun i => i.2.length ≤ 1 ∧ val i.2 < 2147483648 ∧ z = sgn i.1 (val i.2)) (open_ds ?_) ?_
 ·rintro w s A n c ⟨ds, h1, h2, h3, h4, h5, h6, h7⟩
  exact ⟨ds, h1, h2, h4, h5, by show ds.length ≤ 1; omega, h6, h7⟩
 ·rintro ⟨s, ds⟩ ⟨h1, h2, h3⟩
  change ds.length ≤ 1 at h1
  change val ds < 2147483648 at h2
  change z = sgn s (val ds) at h3
  match ds, h1, h2, h3 with
  | [], _, _, h3 =>
   have : z = 0 := by rw [h3]; cases s <;> rfl
   subst this
   exact word_nil s
  | [d], _, h2, h3 =>
   rw [val_one] at h2 h3
   cases s with
   | true => rw [h3]; exact word_neg d h2
   | false => rw [h3]; exact word_pos d h2
  | _ :: _ :: _, h1, _, _ => simp at h1
theorem smallWord_no : Sp Try.prog I 76 [.ag (ip (lP z))] (.tu [ci 0, cb false]) := by
 refine Sp.ex (ok := fun i => 2 ≤ i.2.length ∨ ∃ d, i.2 = [d] ∧ 2147483648 ≤ d) (open_ds ?_) ?_
 ·rintro w s A n c ⟨ds, h1, h2, h3, h4, h5, h6, h7, h8⟩
  exact ⟨ds, h1, h3, h5, h6, h8⟩
 ·rintro ⟨s, ds⟩ (h | ⟨d, h1, h2⟩)
  ·exact word_long s ds h
  ·simp only at h1
   subst h1
   exact word_big s d h2
end
end Go.Proofs.Ytflajoflpkboiaa

/- Fractions of small numbers: smallParts, small; fromWords. -/
namespace Go.Proofs.Ytflajoflpkboiaa
open Go Go.RowKit
set_option linter.unusedVariables false

/-- some cells -/
def anyI (k : Nat) : Item where
 n := k
 T := fun _ _ l => l.length = k ∧ ∀ v ∈ l, okCell v = true
 step := fun _ _ h => h
 len := fun h => h.1
 one := fun h => h.2
/-- the numerator and the positive denominator that a fraction denotes -/
def pn (n d : Int) : Int := if d = 0 then 0 else if d < 0 then -n else n
def pd (d : Int) : Int := if d = 0 then 1 else if d < 0 then -d else d
theorem pd_pos (d : Int) : 0 < pd d := by unfold pd; split <;> (try split) <;> omega
theorem pn_pd (n d : Int) : Rat.divInt (pn n d) (pd d) = Rat.divInt n d := by
 unfold pn pd
 split
 ·rename_i h; subst h; rw [Rat.divInt_zero, Rat.zero_divInt]
 ·split
  ·exact rat_neg n d
  ·rfl
section
variable {I : WInv} {n d n' d' : Int}
abbrev fr (q1 q2 : IntP) : CT := .ag (ip q1 ++ ip q2)
abbrev wds (x y : Int) : CT := .ag [.b (.lit (.int .i64 x)), .b (.lit (.int .i64 y))]
abbrev S31 (z : Int) : Prop := -2147483648 < z ∧ z < 2147483648
theorem smallParts_yes (hn : S31 n) (hd : S31 d) : Sp Try.prog I 58 [fr (sP n) (sP d)] (.tu [wds (pn n d) (pd d), cb true]) := by
 by_cases h0 : d = 0
 ·subst h0
  exact sp_run (nt := 40) 1000 [po (smallWord_yes (z := 0)), po (smallWord_yes (z := n)), pk (b_eql 2 0 0 true rfl)] (by kernel_rfl)
 ·by_cases h1 : d < 0
  ·have e1 : pn n d = -n := by unfold pn; rw [if_neg h0, if_pos h1]
   have e2 : pd d = -d := by unfold pd; rw [if_neg h0, if_pos h1]
   rw [e1, e2]
   exact sp_run (nt := 40) 1000 [po (smallWord_yes (z := d)), po (smallWord_yes (z := n)), pk (b_eql 2 d 0 false (decide_eq_false h0)), pk (b_lss 2 d 0 true (decide_eq_true h1)), pk (u_neg n ⟨by omega, by omega⟩), pk (u_neg d ⟨by omega, by omega⟩)] (by kernel_rfl)
  ·have e1 : pn n d = n := by unfold pn; rw [if_neg h0, if_neg h1]
   have e2 : pd d = d := by unfold pd; rw [if_neg h0, if_neg h1]
   rw [e1, e2]
   exact sp_run (nt := 40) 1000 [po (smallWord_yes (z := d)), po (smallWord_yes (z := n)), pk (b_eql 2 d 0 false (decide_eq_false h0)), pk (b_lss 2 d 0 false (decide_eq_false h1))] (by kernel_rfl)
theorem smallParts_no1 {q : IntP} : Sp Try.prog I 58 [fr q (lP d)] (.tu [wds 0 0, cb false]) :=
 sp_run (nt := 40) 1000 [po (smallWord_no (z := d))] (by kernel_rfl)
theorem smallParts_no2 : Sp Try.prog I 58 [fr (lP n) (sP d)] (.tu [wds 0 0, cb false]) :=
 sp_run (nt := 40) 1000 [po (smallWord_yes (z := d)), po (smallWord_no (z := n))] (by kernel_rfl)
theorem small_yes (hn : S31 n) (hd : S31 d) (hn' : S31 n') (hd' : S31 d') : Sp Try.prog I 40 [fr (sP n) (sP d), fr (sP n') (sP d')] (.tu [wds (pn n d) (pd d), wds (pn n' d') (pd d'), cb true]) :=
 sp_run (nt := 24) 1000 [po (smallParts_yes hn hd), po (smallParts_yes hn' hd')] (by kernel_rfl)
abbrev any2 : CT := .ag [.b (.it (anyI 2))]
/-- the fractions are not both small -/
abbrev SmallNo (I : WInv) (q1 q2 q3 q4 : IntP) : Prop := Sp Try.prog I 40 [fr q1 q2, fr q3 q4] (.tu [any2, any2, cb false])
theorem wds_any {N : Nat → Prop} {w : World} {x y : Int} {v : Value} (h : (wds x y).sem N w G0 v) : any2.sem N w G0 v := by
 obtain ⟨vs, e, l1, l2, e1, h1, l3, l4, e2, h3, h4⟩ := h
 rw [show l4 = [] from h4, show l3 = _ from h3] at e2
 rw [show l1 = _ from h1, e2] at e1
 refine ⟨vs, e, semL_one' ?_⟩
 rw [e1]
 exact ⟨rfl, by intro v hv; simp at hv; rcases hv with rfl | rfl <;> rfl⟩
theorem res_any {f : FuncId} {args : List CT} {a b c d : Int} (h : Sp Try.prog I f args (.tu [wds a b, wds c d, cb false])) : Sp Try.prog I f args (.tu [any2, any2, cb false]) :=
 h.res fun N w v ⟨vs, e, x, l, e1, h1, y, l', e2, h2, h3⟩ => ⟨vs, e, x, l, e1, wds_any h1, y, l', e2, wds_any h2, h3⟩
theorem small_no1 {q q3 q4 : IntP} : SmallNo I q (lP d) q3 q4 :=
 res_any (a := 0) (b := 0) (c := 0) (d := 0) (sp_run (nt := 24) 1000 [po (smallParts_no1 (q := q) (d := d))] (by kernel_rfl))
theorem small_no2 {q3 q4 : IntP} : SmallNo I (lP n) (sP d) q3 q4 :=
 res_any (a := 0) (b := 0) (c := 0) (d := 0) (sp_run (nt := 24) 1000 [po (smallParts_no2 (n := n) (d := d))] (by kernel_rfl))
theorem small_no3 {q : IntP} (hn : S31 n) (hd : S31 d) : SmallNo I (sP n) (sP d) q (lP d') :=
 res_any (a := pn n d) (b := pd d) (c := 0) (d := 0) (sp_run (nt := 24) 1000 [po (smallParts_yes hn hd), po (smallParts_no1 (q := q) (d := d'))] (by kernel_rfl))
theorem small_no4 (hn : S31 n) (hd : S31 d) : SmallNo I (sP n) (sP d) (lP n') (sP d') :=
 res_any (a := pn n d) (b := pd d) (c := 0) (d := 0) (sp_run (nt := 24) 1000 [po (smallParts_yes hn hd), po (smallParts_no2 (n := n') (d := d'))] (by kernel_rfl))
theorem fr_split {q1 q2 : IntP} {N : Nat → Prop} {w : World} {v : Value} (h : (fr q1 q2).sem N w G0 v) : ∃ l m, v = .agg (l ++ m).toArray ∧ semL N w G0 (ip q1) l ∧ semL N w G0 (ip q2) m := by
 obtain ⟨vs, e, h⟩ := h
 obtain ⟨l, m, e2, h1, h2⟩ := semL_split h
 exact ⟨l, m, by rw [e, e2], h1, h2⟩
theorem fr_join {q1 q2 : IntP} {N : Nat → Prop} {w : World} {l m : List Value} (h1 : semL N w G0 (ip q1) l) (h2 : semL N w G0 (ip q2) m) : (fr q1 q2).sem N w G0 (.agg (l ++ m).toArray) := ⟨_, rfl, semL_append h1 h2⟩
theorem sP_31 {N : Nat → Prop} {w : World} {l : List Value} (h : semL N w G0 (ip (sP n)) l) : S31 n := by
 obtain ⟨s, A, k, c, e, h⟩ := semL_one h
 exact sP_lt h
/-- a contract for two fractions: once for small ones, once for others -/
theorem two_fracs {f : FuncId} {res : TV} {q1 q2 q3 q4 : IntP} (h1 : Num (ip q1) n) (h2 : Num (ip q2) d) (h3 : Num (ip q3) n') (h4 : Num (ip q4) d')
  (hs : S31 n → S31 d → S31 n' → S31 d' → Sp Try.prog I f [fr (sP n) (sP d), fr (sP n') (sP d')] res)
  (hl : ∀ p1 p2 p3 p4, Num (ip p1) n → Num (ip p2) d → Num (ip p3) n' → Num (ip p4) d' → SmallNo I p1 p2 p3 p4 → Sp Try.prog I f [fr p1 p2, fr p3 p4] res) : Sp Try.prog I f [fr q1 q2, fr q3 q4] res := by
 intro N w vs hI hlow hv
 obtain ⟨v, r, rfl, hv1, u, r2, rfl, hv2, hr⟩ := hv
 rw [show r2 = [] from hr]
 obtain ⟨l1, m1, rfl, a1, a2⟩ := fr_split hv1
 obtain ⟨l2, m2, rfl, a3, a4⟩ := fr_split hv2
 have go : ∀ {p1 p2 p3 p4}, Num (ip p1) n → Num (ip p2) d → Num (ip p3) n' → Num (ip p4) d' → SmallNo I p1 p2 p3 p4 → semL N w G0 (ip p1) l1 → semL N w G0 (ip p2) m1 → semL N w G0 (ip p3) l2 → semL N w G0 (ip p4) m2 → Calls Try.prog f [Value.agg (l1 ++ m1).toArray, .agg (l2 ++ m2).toArray].toArray w fun e w' => ∃ v, e = .returned v ∧ res.sem (Nx N w w') w' G0 v ∧ Below w.heap.size w w' :=
  fun k1 k2 k3 k4 hno b1 b2 b3 b4 => hl _ _ _ _ k1 k2 k3 k4 hno N w _ hI hlow ⟨_, _, rfl, fr_join b1 b2, _, _, rfl, fr_join b3 b4, rfl⟩
 rcases small_or h2 a2 with b2 | b2
 ·rcases small_or h1 a1 with b1 | b1
  ·rcases small_or h4 a4 with b4 | b4
   ·rcases small_or h3 a3 with b3 | b3
    ·exact hs (sP_31 b1) (sP_31 b2) (sP_31 b3) (sP_31 b4) N w _ hI hlow ⟨_, _, rfl, fr_join b1 b2, _, _, rfl, fr_join b3 b4, rfl⟩
    ·exact go num_sP num_sP num_lP num_sP (small_no4 (sP_31 b1) (sP_31 b2)) b1 b2 b3 b4
   ·exact go num_sP num_sP h3 num_lP (small_no3 (sP_31 b1) (sP_31 b2)) b1 b2 a3 b4
  ·exact go num_lP num_sP h3 h4 small_no2 b1 b2 a3 a4
 ·exact go h1 num_lP h3 h4 small_no1 a1 b2 a3 a4

/-! ### parts, in one form -/
abbrev iy (z : Int) : IntP := aP 1048576 z
theorem num_iy (z : Int) : Num (ip (iy z)) z := num_ia (Nat.le_refl _)
theorem iy_of {x : List It} {z : Int} (h : Num x z) {N : Nat → Prop} {w : World} {v : Value} (hv : (CT.ag x).sem N w G0 v) : (CT.ag (ip (iy z))).sem N w G0 v := by
 obtain ⟨vs, e, h1⟩ := hv
 obtain ⟨s, A, n, c, e2, h2, h3⟩ := h N w vs h1
 exact ⟨vs, e, semL_one' ⟨s, A, n, c, e2, h2, h3⟩⟩
theorem res_parts {f : FuncId} {args : List CT} {x y : List It} {a b : Int} (h : Sp Try.prog I f args (.tu [.ag x, .ag y])) (hx : Num x a) (hy : Num y b) : Sp Try.prog I f args (.tu [.ag (ip (iy a)), .ag (ip (iy b))]) :=
 h.res fun N w v ⟨vs, e, u, l, e1, h1, u2, l2, e2, h2, h3⟩ => ⟨vs, e, u, l, e1, iy_of hx h1, u2, l2, e2, iy_of hy h2, h3⟩
end
end Go.Proofs.Ytflajoflpkboiaa

/- Fractions: parts and sign. -/
namespace Go.Proofs.Ytflajoflpkboiaa
open Go Go.RowKit
set_option linter.unusedVariables false

section
variable {I : WInv} {q1 q2 : IntP} {n d : Int}
theorem parts_pos (h1 : Num (ip q1) n) (h2 : Num (ip q2) d) (hd : 0 < d) : Sp Try.prog I 42 [.ag (ip q1 ++ ip q2)] (.tu [.ag (ip q1), .ag (ip q2)]) :=
 sp_run (nt := 23) 1000 [po (sign_sp 1 h2 (Int.sign_eq_one_of_pos hd))] (by kernel_rfl)
theorem parts_neg (h1 : Num (ip q1) n) (h2 : Num (ip q2) d) (hd : d < 0) : Sp Try.prog I 42 [.ag (ip q1 ++ ip q2)] (.tu [.ag (ic (-n)), .ag (ic (-d))]) :=
 sp_run (nt := 23) 1000 [po (sign_sp (-1) h2 (Int.sign_eq_neg_one_of_neg hd)), po (neg_sp h1), po (neg_sp h2)] (by kernel_rfl)
theorem parts_zero (h2 : Num (ip q2) 0) : Sp Try.prog I 42 [.ag (ip q1 ++ ip q2)] (.tu [.ag litI, .ag (ic 1)]) :=
 sp_run (nt := 23) 1000 [po (sign_sp 0 h2 rfl), po (i64_sp 1 (by omega) (by omega))] (by kernel_rfl)
end
end Go.Proofs.Ytflajoflpkboiaa

/- Fractions: fromWords, parts, reduce. -/
namespace Go.Proofs.Ytflajoflpkboiaa
open Go Go.RowKit
set_option linter.unusedVariables false

/-- a canonical fraction -/
abbrev frc (q : Rat) : CT := fr (cP q.num) (cP (q.den : Int))
abbrev tfr (q : Rat) : TV := .cv (frc q)
theorem tmod_nat (b a : Nat) : (b : Int).tmod (a : Int) = ((b % a : Nat) : Int) := by
 rw [Int.tmod_eq_emod_of_nonneg (by omega), Int.natCast_emod]
def wst (x y a b : Int) : St := ⟨[(0, li x), (1, li y), (4, .cv (.one (.ptr 0 0))), (5, li a), (6, li b)], [(0, some ⟨30, none, litI ++ litI⟩)], 50⟩
section
variable {I : WInv}
theorem words_loop (x y : Int) (a0 b0 : Nat) : LoopTr Try.prog I 28 (loopC Try.prog 41 0) (wst x y a0 b0) (.exit 0) (wst x y 0 (Nat.gcd a0 b0 : Nat)) := by
 refine loop_tr (ι := Nat × Nat) (by simp) (fun i => wst x y i.1 i.2) (fun i => i.1) (fun i => Nat.gcd i.1 i.2 = Nat.gcd a0 b0) (a0, b0) rfl ?_
 rintro ⟨a, b⟩ hg
 change Nat.gcd a b = Nat.gcd a0 b0 at hg
 by_cases ha : a = 0
 ·subst ha
  right
  rw [Nat.gcd_zero_left] at hg
  rw [← hg]
  exact rnd_run 1000 [pk (b_neq 2 ((0 : Nat) : Int) 0 false rfl)] (by kernel_rfl)
 ·left
  refine ⟨(b % a, a), ?_, Nat.mod_lt _ (by omega), ?_⟩
  ·show Nat.gcd (b % a) a = Nat.gcd a0 b0
   rw [← Nat.gcd_rec, hg]
  ·have h : Rnd Try.prog I 28 (loopC Try.prog 41 0) (wst x y a b) .normal (wst x y ((b : Int).tmod (a : Int)) a) :=
    rnd_run 1000 [pk (b_neq 2 (a : Int) 0 true (decide_eq_false (by omega))), pk (b_rem 2 (b : Int) (a : Int) (by omega))] (by kernel_rfl)
   rw [tmod_nat] at h
   exact h
theorem tdiv_num {n d : Int} (hd : 0 < d) : n.tdiv (Nat.gcd n.natAbs d.natAbs : Nat) = (Rat.divInt n d).num := by
 rw [rat_num_pos hd, Int.fdiv_eq_ediv_of_nonneg _ (Int.natCast_nonneg _)]
 refine Int.tdiv_eq_ediv_of_dvd ?_
 have := Int.gcd_dvd_left (a := n) (b := d)
 exact this
theorem tdiv_den {n d : Int} (hd : 0 < d) : d.tdiv (Nat.gcd n.natAbs d.natAbs : Nat) = ((Rat.divInt n d).den : Int) := by
 rw [rat_den_pos hd, Int.fdiv_eq_ediv_of_nonneg _ (Int.natCast_nonneg _)]
 refine Int.tdiv_eq_ediv_of_dvd ?_
 have := Int.gcd_dvd_right (a := n) (b := d)
 exact this
theorem abs_num_le (n d : Int) (h : R64 n) (h' : -9223372036854775808 < n) : R64 (Rat.divInt n d).num := by
 have := num_le n d
 constructor <;> omega
theorem den_le64 {n d : Int} (hd : 0 < d) (h : R64 d) : R64 ((Rat.divInt n d).den : Int) := by
 have := den_le (n := n) (d := d) (by omega)
 constructor <;> omega
theorem fromWords_sp (x y : Int) (hx : -9223372036854775808 < x ∧ x ≤ 9223372036854775807) (hy : 0 < y ∧ y ≤ 9223372036854775807) : Sp Try.prog I 41 [ci x, ci y] (tfr (Rat.divInt x y)) := by
 have hg0 : ((Nat.gcd x.natAbs y.natAbs : Nat) : Int) ≠ 0 := gcd_ne (by omega)
 have e1 := tdiv_num (n := x) hy.1
 have e2 := tdiv_den (n := x) hy.1
 have r1 := abs_num_le x y ⟨by omega, by omega⟩ hx.1
 have r2 := den_le64 (n := x) hy.1 ⟨by omega, by omega⟩
 rw [← e1] at r1
 rw [← e2] at r2
 unfold tfr frc
 rw [← e1, ← e2]
 have hyn : y = ((y.natAbs : Nat) : Int) := by omega
 by_cases h0 : x < 0
 ·have hl := words_loop (I := I) x y x.natAbs y.natAbs
  have ha : ((x.natAbs : Nat) : Int) = -x := by omega
  rw [ha, ← hyn] at hl
  exact sp_run (nt := 28) 1000 [pk (b_lss 2 x 0 true (decide_eq_true h0)), pk (u_neg x ⟨by omega, by omega⟩), pl hl, pk (b_quo 2 x _ hg0 r1), po (i64_sp _ r1.1 r1.2), pk (b_quo 2 y _ hg0 r2), po (i64_sp _ r2.1 r2.2)] (by kernel_rfl)
 ·have hl := words_loop (I := I) x y x.natAbs y.natAbs
  have ha : ((x.natAbs : Nat) : Int) = x := by omega
  rw [ha, ← hyn] at hl
  exact sp_run (nt := 28) 1000 [pk (b_lss 2 x 0 false (decide_eq_false h0)), pl hl, pk (b_quo 2 x _ hg0 r1), po (i64_sp _ r1.1 r1.2), pk (b_quo 2 y _ hg0 r2), po (i64_sp _ r2.1 r2.2)] (by kernel_rfl)
variable {q1 q2 : IntP} {n d : Int}
theorem parts_sp (h1 : Num (ip q1) n) (h2 : Num (ip q2) d) (hk1 : Lim 1048576 n) (hk2 : Lim 1048576 d) : Sp Try.prog I 42 [fr q1 q2] (.tu [.ag (ip (iy (pn n d))), .ag (ip (iy (pd d)))]) := by
 rcases Int.lt_trichotomy d 0 with hd | hd | hd
 ·have e1 : pn n d = -n := by unfold pn; rw [if_neg (by omega), if_pos hd]
  have e2 : pd d = -d := by unfold pd; rw [if_neg (by omega), if_pos hd]
  rw [e1, e2]
  exact res_parts (parts_neg h1 h2 hd) (num_ic hk1.neg (Nat.le_refl _)) (num_ic hk2.neg (Nat.le_refl _))
 ·subst hd
  exact res_parts (parts_zero h2) num_lit (num_ic (lim_one (by omega) : Lim 1 1) (by omega))
 ·have e1 : pn n d = n := by unfold pn; rw [if_neg (by omega), if_neg (by omega)]
  have e2 : pd d = d := by unfold pd; rw [if_neg (by omega), if_neg (by omega)]
  rw [e1, e2]
  exact res_parts (parts_pos h1 h2 hd) h1 h2
theorem zero_rat {d : Int} : Rat.divInt 0 d = Rat.divInt 0 1 := by rw [Rat.zero_divInt, Rat.zero_divInt]
theorem zero_frac : Sp Try.prog I 41 [ci 0, ci 1] (tfr (Rat.divInt 0 1)) := fromWords_sp 0 1 ⟨by omega, by omega⟩ ⟨by omega, by omega⟩
theorem reduce_sp (h1 : Num (ip q1) n) (h2 : Num (ip q2) d) (hk1 : Lim 1048576 n) (hk2 : Lim 1048576 d) (hd : d ≠ 0) : Sp Try.prog I 44 [.ag (ip q1), .ag (ip q2)] (tfr (Rat.divInt n d)) := by
 by_cases hn : n = 0
 ·subst hn
  rw [zero_rat]
  exact sp_run (nt := 43) 1000 [po (sign_sp 0 h1 rfl), po zero_frac] (by kernel_rfl)
 ·have hs : ∃ k, n.sign = k ∧ (k = 1 ∨ k = -1) := by
   rcases Int.lt_trichotomy n 0 with h | h | h
   ·exact ⟨-1, Int.sign_eq_neg_one_of_neg h, .inr rfl⟩
   ·exact absurd h hn
   ·exact ⟨1, Int.sign_eq_one_of_pos h, .inl rfl⟩
  obtain ⟨k, hk, hkv⟩ := hs
  rcases Int.lt_trichotomy d 0 with hdd | hdd | hdd
  ·have m1 : Num (ic (-n)) (-n) := num_ic hk1.neg (Nat.le_refl _)
   have m2 : Num (ic (-d)) (-d) := num_ic hk2.neg (Nat.le_refl _)
   have hp : 0 < -d := by omega
   have hg := gcd_ne (n := -n) (d := -d) (by omega)
   have gl : Lim 1048576 ((Nat.gcd (-n).natAbs (-d).natAbs : Nat) : Int) := lim_gcd hk2.neg (by omega)
   have mg : Num (ic ((Nat.gcd (-n).natAbs (-d).natAbs : Nat) : Int)) _ := num_ic gl (Nat.le_refl _)
   rw [← rat_neg n d]
   unfold tfr frc
   rw [rat_num_pos hp, rat_den_pos hp]
   rcases hkv with rfl | rfl
   ·exact sp_run (nt := 43) 1000 [po (sign_sp 1 h1 hk), po (sign_sp (-1) h2 (Int.sign_eq_neg_one_of_neg hdd)), po (neg_sp h1), po (neg_sp h2), po (gcd_sp m1 m2), po (dm_sp m1 mg hg), po (dm_sp m2 mg hg)] (by kernel_rfl)
   ·exact sp_run (nt := 43) 1000 [po (sign_sp (-1) h1 hk), po (sign_sp (-1) h2 (Int.sign_eq_neg_one_of_neg hdd)), po (neg_sp h1), po (neg_sp h2), po (gcd_sp m1 m2), po (dm_sp m1 mg hg), po (dm_sp m2 mg hg)] (by kernel_rfl)
  ·exact absurd hdd hd
  ·have hg := gcd_ne (n := n) (d := d) (by omega)
   have gl : Lim 1048576 ((Nat.gcd n.natAbs d.natAbs : Nat) : Int) := lim_gcd hk2 (by omega)
   have mg : Num (ic ((Nat.gcd n.natAbs d.natAbs : Nat) : Int)) _ := num_ic gl (Nat.le_refl _)
   unfold tfr frc
   rw [rat_num_pos hdd, rat_den_pos hdd]
   rcases hkv with rfl | rfl
   ·exact sp_run (nt := 43) 1000 [po (sign_sp 1 h1 hk), po (sign_sp 1 h2 (Int.sign_eq_one_of_pos hdd)), po (gcd_sp h1 h2), po (dm_sp h1 mg hg), po (dm_sp h2 mg hg)] (by kernel_rfl)
   ·exact sp_run (nt := 43) 1000 [po (sign_sp (-1) h1 hk), po (sign_sp 1 h2 (Int.sign_eq_one_of_pos hdd)), po (gcd_sp h1 h2), po (dm_sp h1 mg hg), po (dm_sp h2 mg hg)] (by kernel_rfl)
end
end Go.Proofs.Ytflajoflpkboiaa

/- Fractions: arithmetic of the program. -/
namespace Go.Proofs.Ytflajoflpkboiaa
open Go Go.RowKit
set_option linter.unusedVariables false

theorem mul31 {a b : Int} (ha : S31 a) (hb : S31 b) : -4611686018427387904 < a * b ∧ a * b < 4611686018427387904 := by
 have h1 : a.natAbs < 2147483648 := by omega
 have h2 : b.natAbs < 2147483648 := by omega
 have h3 : (a * b).natAbs < 2147483648 * 2147483648 := by
  rw [Int.natAbs_mul]
  exact Nat.mul_lt_mul_of_lt_of_le h1 (Nat.le_of_lt h2) (by omega)
 omega
theorem pn31 {n : Int} (h : S31 n) (d : Int) : S31 (pn n d) := by
 unfold pn
 split
 ·exact ⟨by omega, by omega⟩
 ·split <;> exact ⟨by omega, by omega⟩
theorem pd31 {d : Int} (h : S31 d) : S31 (pd d) := by
 unfold pd
 split
 ·exact ⟨by omega, by omega⟩
 ·split <;> exact ⟨by omega, by omega⟩
theorem pn_lim {k : Nat} {n : Int} (h : Lim k n) (d : Int) : Lim k (pn n d) := by
 unfold pn
 split
 ·exact lim_zero k
 ·split
  ·exact h.neg
  ·exact h
theorem pd_lim {k : Nat} {d : Int} (h : Lim k d) (hk : 0 < k) : Lim k (pd d) := by
 unfold pd
 split
 ·exact lim_one hk
 ·split
  ·exact h.neg
  ·exact h
theorem pd_ne (d : Int) : pd d ≠ 0 := by have := pd_pos d; omega
theorem rat_add {a b c d : Int} (hb : b ≠ 0) (hd : d ≠ 0) : Rat.divInt (a * d + c * b) (b * d) = Rat.divInt a b + Rat.divInt c d := (Rat.divInt_add_divInt a c hb hd).symm
theorem rat_mul (a b c d : Int) : Rat.divInt (a * c) (b * d) = Rat.divInt a b * Rat.divInt c d := (Rat.divInt_mul_divInt a c).symm
theorem rat_add1 {a c b : Int} (hb : b ≠ 0) : Rat.divInt (a + c) b = Rat.divInt a b + Rat.divInt c b := by
 rw [Rat.divInt_add_divInt a c hb hb, ← Int.add_mul, Rat.divInt_mul_right hb]
/-- the order of two fractions -/
def cmpq (a b : Rat) : Int := if a < b then -1 else if a = b then 0 else 1
theorem rat_pos {d : Int} (h : 0 < d) : (0 : Rat) < (d : Rat) := Rat.intCast_pos.2 h
theorem cmpz_rat {a b c d : Int} (hb : 0 < b) (hd : 0 < d) : cmpz (a * d) (c * b) = cmpq (Rat.divInt a b) (Rat.divInt c d) := by
 have hb' := rat_pos hb
 have hd' := rat_pos hd
 have e1 : Rat.divInt a b * (b : Rat) = (a : Rat) := by rw [Rat.divInt_eq_div, Rat.div_mul_cancel (Rat.ne_of_gt hb')]
 have e2 : Rat.divInt c d * (d : Rat) = (c : Rat) := by rw [Rat.divInt_eq_div, Rat.div_mul_cancel (Rat.ne_of_gt hd')]
 have hp := Rat.mul_pos hb' hd'
 have k1 : ((a * d : Int) : Rat) = Rat.divInt a b * ((b : Rat) * (d : Rat)) := by
  rw [Rat.intCast_mul, ← e1]; grind
 have k2 : ((c * b : Int) : Rat) = Rat.divInt c d * ((b : Rat) * (d : Rat)) := by
  rw [Rat.intCast_mul, ← e2]; grind
 have l1 : a * d < c * b ↔ Rat.divInt a b < Rat.divInt c d := by
  rw [← Rat.intCast_lt_intCast, k1, k2, Rat.mul_lt_mul_right hp]
 have l2 : a * d = c * b ↔ Rat.divInt a b = Rat.divInt c d := by
  rw [← Rat.intCast_inj, k1, k2]
  constructor
  ·intro h
   have := congrArg (· / ((b : Rat) * (d : Rat))) h
   simp only [Rat.mul_div_cancel (Rat.ne_of_gt hp)] at this
   exact this
  ·intro h; rw [h]
 unfold cmpz cmpq
 by_cases h1 : a * d < c * b
 ·rw [if_pos h1, if_pos (l1.1 h1)]
 ·rw [if_neg h1, if_neg (fun h => h1 (l1.2 h))]
  by_cases h2 : a * d = c * b
  ·rw [if_pos h2, if_pos (l2.1 h2)]
  ·rw [if_neg h2, if_neg (fun h => h2 (l2.2 h))]
/-- a fraction that may be reckoned with: at most k digits -/
structure Fk (q1 q2 : IntP) (n d : Int) (k : Nat) : Prop where
 a : Num (ip q1) n
 b : Num (ip q2) d
 ln : Lim k n
 ld : Lim k d
 k0 : 0 < k
 k1 : k ≤ 262144
theorem Fk.big {q1 q2 : IntP} {n d : Int} {k : Nat} (h : Fk q1 q2 n d k) : Lim 1048576 n ∧ Lim 1048576 d := ⟨h.ln.mono (by have := h.k1; omega), h.ld.mono (by have := h.k1; omega)⟩
section
variable {I : WInv} {q1 q2 q3 q4 : IntP} {n d n' d' : Int} {k k' : Nat}
theorem ny {z : Int} {j : Nat} (h : Lim j z) (hj : j ≤ 1048576) : Num (ic z) z := num_ic h hj
theorem addq_sp (h1 : Fk q1 q2 n d k) (h2 : Fk q3 q4 n' d' k') (hk : k + k' ≤ 262144) : Sp Try.prog I 23 [fr q1 q2, fr q3 q4] (tfr (Rat.divInt n d + Rat.divInt n' d')) := by
 have y1 := pd_pos d
 have y2 := pd_pos d'
 have l1 := pn_lim h1.ln d
 have l2 := pd_lim h1.ld h1.k0
 have l3 := pn_lim h2.ln d'
 have l4 := pd_lim h2.ld h2.k0
 have e := rat_add (a := pn n d) (c := pn n' d') (pd_ne d) (pd_ne d')
 rw [pn_pd, pn_pd] at e
 refine two_fracs h1.a h1.b h2.a h2.b ?_ ?_
 ·intro s1 s2 s3 s4
  have b1 := mul31 (pn31 s1 d) (pd31 s4)
  have b2 := mul31 (pn31 s3 d') (pd31 s2)
  have b3 := mul31 (pd31 s2) (pd31 s4)
  have p3 := Int.mul_pos y1 y2
  rw [← e]
  exact sp_run (nt := 67) 1000 [po (small_yes s1 s2 s3 s4), pk (b_mul 2 (pn n d) (pd d') ⟨by omega, by omega⟩), pk (b_mul 2 (pn n' d') (pd d) ⟨by omega, by omega⟩), pk (b_add 2 (pn n d * pd d') (pn n' d' * pd d) ⟨by omega, by omega⟩), pk (b_mul 2 (pd d) (pd d') ⟨by omega, by omega⟩), po (fromWords_sp (pn n d * pd d' + pn n' d' * pd d) (pd d * pd d') ⟨by omega, by omega⟩ ⟨p3, by omega⟩)] (by kernel_rfl)
 ·intro p1 p2 p3 p4 m1 m2 m3 m4 hno
  have a1 := parts_sp (I := I) m1 m2 h1.big.1 h1.big.2
  have a2 := parts_sp (I := I) m3 m4 h2.big.1 h2.big.2
  by_cases he : pd d = pd d'
  ·have hl : Lim (k + k' + 1) (pn n d + pn n' d') := (l1.mono (by omega)).add (l3.mono (by omega))
   have e2 := rat_add1 (a := pn n d) (c := pn n' d') (pd_ne d)
   rw [pn_pd, he, pn_pd] at e2
   rw [← e2, ← he]
   exact sp_run (nt := 67) 1000 [po hno, po a1, po a2, po (cmp_sp 0 (num_iy (pd d)) (num_iy (pd d')) (cmpz_eq he)), po (add_sp (num_iy (pn n d)) (num_iy (pn n' d'))), po (reduce_sp (ny hl (by omega)) (num_iy (pd d)) (hl.mono (by omega)) (l2.mono (by have := h1.k1; omega)) (pd_ne d))] (by kernel_rfl)
  ·have hl1 := l1.mul l4
   have hl2 := l3.mul l2
   have hl3 := l2.mul l4
   have hl : Lim (k + k' + 1) (pn n d * pd d' + pn n' d' * pd d) := hl1.add (hl2.mono (by omega))
   rw [← e]
   have go : ∀ c, cmpz (pd d) (pd d') = c → (c = 1 ∨ c = -1) → Sp Try.prog I 23 [fr p1 p2, fr p3 p4] (tfr (Rat.divInt (pn n d * pd d' + pn n' d' * pd d) (pd d * pd d'))) := by
    rintro c hc (rfl | rfl)
    ·exact sp_run (nt := 67) 1000 [po hno, po a1, po a2, po (cmp_sp 1 (num_iy (pd d)) (num_iy (pd d')) hc), po (mul_sp (num_iy (pn n d)) (num_iy (pd d'))), po (mul_sp (num_iy (pn n' d')) (num_iy (pd d))), po (add_sp (ny hl1 (by omega)) (ny hl2 (by omega))), po (mul_sp (num_iy (pd d)) (num_iy (pd d'))), po (reduce_sp (ny hl (by omega)) (ny hl3 (by omega)) (hl.mono (by omega)) (hl3.mono (by omega)) (by have := Int.mul_pos y1 y2; omega))] (by kernel_rfl)
    ·exact sp_run (nt := 67) 1000 [po hno, po a1, po a2, po (cmp_sp (-1) (num_iy (pd d)) (num_iy (pd d')) hc), po (mul_sp (num_iy (pn n d)) (num_iy (pd d'))), po (mul_sp (num_iy (pn n' d')) (num_iy (pd d))), po (add_sp (ny hl1 (by omega)) (ny hl2 (by omega))), po (mul_sp (num_iy (pd d)) (num_iy (pd d'))), po (reduce_sp (ny hl (by omega)) (ny hl3 (by omega)) (hl.mono (by omega)) (hl3.mono (by omega)) (by have := Int.mul_pos y1 y2; omega))] (by kernel_rfl)
   rcases Int.lt_trichotomy (pd d) (pd d') with h | h | h
   ·exact go _ (cmpz_lt h) (.inr rfl)
   ·exact absurd h he
   ·exact go _ (cmpz_gt h) (.inl rfl)
theorem cmpq_sp (c : Int) (h1 : Fk q1 q2 n d k) (h2 : Fk q3 q4 n' d' k') (hk : k + k' ≤ 262144) (hc : cmpq (Rat.divInt n d) (Rat.divInt n' d') = c) : Sp Try.prog I 37 [fr q1 q2, fr q3 q4] (li c) := by
 have y1 := pd_pos d
 have y2 := pd_pos d'
 have hl1 := (pn_lim h1.ln d).mul (pd_lim h2.ld h2.k0)
 have hl2 := (pn_lim h2.ln d').mul (pd_lim h1.ld h1.k0)
 have e := cmpz_rat (a := pn n d) (c := pn n' d') y1 y2
 rw [pn_pd, pn_pd, hc] at e
 refine two_fracs h1.a h1.b h2.a h2.b ?_ ?_
 ·intro s1 s2 s3 s4
  have b1 := mul31 (pn31 s1 d) (pd31 s4)
  have b2 := mul31 (pn31 s3 d') (pd31 s2)
  rcases Int.lt_trichotomy (pn n d * pd d') (pn n' d' * pd d) with h | h | h
  ·rw [cmpz_lt h] at e
   subst e
   exact sp_run (nt := 57) 1000 [po (small_yes s1 s2 s3 s4), pk (b_mul 2 (pn n d) (pd d') ⟨by omega, by omega⟩), pk (b_mul 2 (pn n' d') (pd d) ⟨by omega, by omega⟩), pk (b_lss 2 (pn n d * pd d') (pn n' d' * pd d) true (decide_eq_true h))] (by kernel_rfl)
  ·rw [cmpz_eq h] at e
   subst e
   exact sp_run (nt := 57) 1000 [po (small_yes s1 s2 s3 s4), pk (b_mul 2 (pn n d) (pd d') ⟨by omega, by omega⟩), pk (b_mul 2 (pn n' d') (pd d) ⟨by omega, by omega⟩), pk (b_lss 2 (pn n d * pd d') (pn n' d' * pd d) false (decide_eq_false (by omega))), pk (b_gtr 2 (pn n d * pd d') (pn n' d' * pd d) false (decide_eq_false (by omega)))] (by kernel_rfl)
  ·rw [cmpz_gt h] at e
   subst e
   exact sp_run (nt := 57) 1000 [po (small_yes s1 s2 s3 s4), pk (b_mul 2 (pn n d) (pd d') ⟨by omega, by omega⟩), pk (b_mul 2 (pn n' d') (pd d) ⟨by omega, by omega⟩), pk (b_lss 2 (pn n d * pd d') (pn n' d' * pd d) false (decide_eq_false (by omega))), pk (b_gtr 2 (pn n d * pd d') (pn n' d' * pd d) true (decide_eq_true h))] (by kernel_rfl)
 ·intro p1 p2 p3 p4 m1 m2 m3 m4 hno
  have a1 := parts_sp (I := I) m1 m2 h1.big.1 h1.big.2
  have a2 := parts_sp (I := I) m3 m4 h2.big.1 h2.big.2
  exact sp_run (nt := 57) 1000 [po hno, po a1, po a2, po (mul_sp (num_iy (pn n d)) (num_iy (pd d'))), po (mul_sp (num_iy (pn n' d')) (num_iy (pd d))), po (cmp_sp c (ny hl1 (by omega)) (ny hl2 (by omega)) e)] (by kernel_rfl)
end
end Go.Proofs.Ytflajoflpkboiaa

/- Fractions of the reference: Reduce, New, FromInt, arithmetic; New, FromInt of the program. -/
namespace Go.Proofs.Ytflajoflpkboiaa
open Go Go.RowKit
set_option linter.unusedVariables false

/-- two cells of a kind that read as n and d -/
def Pr2 (x : List It) (n d : Int) : Prop := ∀ N w l, semL N w G0 x l → ∃ l1 l2, l = l1 ++ l2 ∧ semL N w G0 (ip (iy n)) l1 ∧ semL N w G0 (ip (iy d)) l2
section
variable {I : WInv} {f : FuncId} {res : TV} {n d n' d' : Int}
theorem Pr2.sem {x : List It} (h : Pr2 x n d) {N : Nat → Prop} {w : World} {v : Value} (hv : (CT.ag x).sem N w G0 v) : (fr (iy n) (iy d)).sem N w G0 v := by
 obtain ⟨vs, e, h1⟩ := hv
 obtain ⟨l1, l2, e1, h2, h3⟩ := h N w vs h1
 exact ⟨vs, e, by rw [e1]; exact semL_append h2 h3⟩
/-- a contract at a fraction of another form -/
theorem Sp.f1 {x : List It} (h : Sp Try.prog I f [fr (iy n) (iy d)] res) (hx : Pr2 x n d) : Sp Try.prog I f [.ag x] res :=
 h.sub fun N w vs ⟨v, l, e, h1, h2⟩ => ⟨v, l, e, hx.sem h1, h2⟩
theorem Sp.f2 {x y : List It} (h : Sp Try.prog I f [fr (iy n) (iy d), fr (iy n') (iy d')] res) (hx : Pr2 x n d) (hy : Pr2 y n' d') : Sp Try.prog I f [.ag x, .ag y] res :=
 h.sub fun N w vs ⟨v, l, e, h1, v2, l2, e2, h2, h3⟩ => ⟨v, l, e, hx.sem h1, v2, l2, e2, hy.sem h2, h3⟩
variable {x y : List It} {k k' : Nat}
theorem zero_lits {N : Nat → Prop} {w : World} {v : Value} (h : (CT.ag (litI ++ ic 1)).sem N w G0 v) : (frc 0).sem N w G0 v := by
 obtain ⟨vs, e, h1⟩ := h
 obtain ⟨l1, l2, e1, h2, h3⟩ := semL_split h1
 obtain ⟨s, A, m, c, e2, h4⟩ := can_lit N w l1 h2
 exact ⟨vs, e, by rw [e1]; exact semL_append (semL_one' ⟨s, A, m, c, e2, h4⟩) h3⟩
end
end Go.Proofs.Ytflajoflpkboiaa

/- Fractions: New, FromInts, FromInt, SameFrac; Light; Format; awake. -/
namespace Go.Proofs.Ytflajoflpkboiaa
open Go Go.RowKit
set_option linter.unusedVariables false
set_option linter.unusedSimpArgs false

section
variable {I : WInv} {n d n' d' : Int} {k k' : Nat} {x y : List It} {q1 q2 q3 q4 : IntP}
theorem new_sp (h1 : Num (ip q1) n) (h2 : Num (ip q2) d) (hk1 : Lim 1048576 n) (hk2 : Lim 1048576 d) (hd : d ≠ 0) : Sp Try.prog I 56 [.ag (ip q1), .ag (ip q2)] (.tu [frc (Rat.divInt n d), ci 0]) := by
 rcases Int.lt_or_gt_of_ne hd with h | h
 ·exact sp_run (nt := 13) 1000 [po (sign_sp (-1) h2 (Int.sign_eq_neg_one_of_neg h)), po (reduce_sp h1 h2 hk1 hk2 hd)] (by kernel_rfl)
 ·exact sp_run (nt := 13) 1000 [po (sign_sp 1 h2 (Int.sign_eq_one_of_pos h)), po (reduce_sp h1 h2 hk1 hk2 hd)] (by kernel_rfl)
theorem lim64 {z : Int} (h : R64 z) : Lim 2 z := by
 unfold Lim
 have : z.natAbs ≤ 9223372036854775808 := by omega
 exact Nat.lt_of_le_of_lt this (by decide)
theorem fromInts_sp {a b : Int} (ha : R64 a) (hb : R64 b) (h0 : b ≠ 0) : Sp Try.prog I 38 [ci a, ci b] (.tu [frc (Rat.divInt a b), ci 0]) :=
 sp_run (nt := 13) 1000 [po (i64_sp a ha.1 ha.2), po (i64_sp b hb.1 hb.2), po (new_sp (num_ic (lim64 ha) (by omega)) (num_ic (lim64 hb) (by omega)) ((lim64 ha).mono (by omega)) ((lim64 hb).mono (by omega)) h0)] (by kernel_rfl)
/-! ### Light -/
abbrev Dg := Bool × List Nat
end
end Go.Proofs.Ytflajoflpkboiaa

/- Fractions: Format, awake; from contracts to laws. -/
namespace Go.Proofs.Ytflajoflpkboiaa
open Go Go.RowKit
set_option linter.unusedVariables false
set_option linter.unusedSimpArgs false

section
variable {x : List It} {z : Int} {P : Program}
/-- a law, out of its contract -/
theorem law_any {I : WInv} {f : FuncId} {args : List CT} (h : Sp Try.prog I f args (lb true)) {w : World} {vs : List Value} (hI : I.T (fun b => b < w.heap.size) w) (hv : all2 (CT.sem (fun b => b < w.heap.size) w G0) args vs) : Calls Try.prog f vs.toArray w (RetV w (.bool true)) :=
 (h (fun b => b < w.heap.size) w vs hI (fun _ h => h) hv).mono fun e w' ⟨v, h1, h2, h3⟩ => by
  have h2 : [v] = [.bool true] := h2
  injection h2 with h2
  exact ⟨by rw [h1, h2], h3⟩
end
end Go.Proofs.Ytflajoflpkboiaa

/- Fractions: negation, rounding, sums, of the program and of the reference; arithmetic of the reference. -/
namespace Go.Proofs.Ytflajoflpkboiaa
open Go Go.RowKit
set_option linter.unusedVariables false
set_option linter.unusedSimpArgs false

section
variable {I : WInv} {n d n' d' : Int} {k k' : Nat} {x y : List It} {q1 q2 q3 q4 : IntP} {P : Program}
/-! ### the reference -/
theorem lim_q (h1 : Fk q1 q2 n d k) : Lim k (Rat.divInt n d).num ∧ Lim k ((Rat.divInt n d).den : Int) := ⟨lim_num h1.ln, lim_den h1.ld h1.k0⟩
/-! ### floor -/
def flq (q : Rat) : Int := q.num.fdiv q.den
theorem floor_div {n d : Int} (hd : 0 < d) : n.fdiv d = flq (Rat.divInt n d) := by
 unfold flq
 rw [rat_num_pos hd, rat_den_pos hd]
 have hg : 0 < ((Nat.gcd n.natAbs d.natAbs : Nat) : Int) := by have := gcd_ne (n := n) (d := d) (by omega); omega
 have d1 : ((Nat.gcd n.natAbs d.natAbs : Nat) : Int) ∣ n := Int.gcd_dvd_left (a := n) (b := d)
 have d2 : ((Nat.gcd n.natAbs d.natAbs : Nat) : Int) ∣ d := Int.gcd_dvd_right (a := n) (b := d)
 generalize ((Nat.gcd n.natAbs d.natAbs : Nat) : Int) = g at *
 obtain ⟨a, rfl⟩ := d1
 obtain ⟨b, rfl⟩ := d2
 have hb : 0 < b := by
  rcases Int.lt_or_le 0 b with h | h
  ·exact h
  ·have := Int.mul_nonpos_of_nonneg_of_nonpos (Int.le_of_lt hg) h; omega
 rw [Int.fdiv_eq_ediv_of_nonneg _ (Int.le_of_lt hg), Int.fdiv_eq_ediv_of_nonneg _ (Int.le_of_lt hg), Int.mul_ediv_cancel_left _ (by omega), Int.mul_ediv_cancel_left _ (by omega), Int.fdiv_eq_ediv_of_nonneg _ (by omega), Int.fdiv_eq_ediv_of_nonneg _ (by omega), Int.mul_ediv_mul_of_pos _ _ hg]
theorem flq_lim {q : Rat} {k : Nat} (h : Lim k q.num) : Lim k (flq q) := lim_fdiv h (den_pos' q)
def clq (q : Rat) : Int := -flq (-q)
theorem clq_lim {q : Rat} {k : Nat} (h : Lim k q.num) : Lim k (clq q) := by
 unfold clq
 exact (flq_lim (q := -q) (by rw [Rat.neg_num]; exact h.neg)).neg
theorem ceilq_sp (h1 : Fk q1 q2 n d k) : Sp Try.prog I 35 [fr q1 q2] (tic (clq (Rat.divInt n d))) := by
 have e := floor_div (n := -(pn n d)) (pd_pos d)
 have e1 : Rat.divInt (-(pn n d)) (pd d) = -Rat.divInt n d := by rw [← Rat.neg_divInt, pn_pd]
 rw [e1] at e
 have l := (pn_lim h1.ln d).neg
 have hk := h1.k1
 have lq : Lim k ((-(pn n d)).fdiv (pd d)) := lim_fdiv l (pd_pos d)
 unfold clq
 rw [← e]
 exact sp_run (nt := 23) 1000 [po (parts_sp h1.a h1.b h1.big.1 h1.big.2), po (neg_sp (num_iy (pn n d))), po (dm_sp (ny l (by omega)) (num_iy (pd d)) (pd_ne d)), po (neg_sp (ny lq (by omega)))] (by kernel_rfl)
/-! ### rounding -/
end
end Go.Proofs.Ytflajoflpkboiaa

/- Fractions: rounding of the reference; Light. -/
namespace Go.Proofs.Ytflajoflpkboiaa
open Go Go.RowKit
set_option linter.unusedVariables false
set_option linter.unusedSimpArgs false

section
variable {I : WInv} {f : FuncId} {res : TV} {a b : Int} {x y : List It}
theorem Sp.i1 (h : Sp Try.prog I f [.ag (ip (iy a))] res) (hx : Num x a) : Sp Try.prog I f [.ag x] res :=
 h.sub fun N w vs ⟨v, l, e, h1, h2⟩ => ⟨v, l, e, iy_of hx h1, h2⟩
theorem Sp.i2 (h : Sp Try.prog I f [.ag (ip (iy a)), .ag (ip (iy b))] res) (hx : Num x a) (hy : Num y b) : Sp Try.prog I f [.ag x, .ag y] res :=
 h.sub fun N w vs ⟨v, l, e, h1, v2, l2, e2, h2, h3⟩ => ⟨v, l, e, iy_of hx h1, v2, l2, e2, iy_of hy h2, h3⟩
end
/-- the fraction q has at most k digits -/
structure Lq (q : Rat) (k : Nat) : Prop where
 n : Lim k q.num
 d : Lim k (q.den : Int)
 k0 : 0 < k
theorem Lq.mono {q : Rat} {k j : Nat} (h : Lq q k) (hk : k ≤ j) : Lq q j := ⟨h.n.mono hk, h.d.mono hk, by have := h.k0; omega⟩
theorem Fk.lq {q1 q2 : IntP} {n d : Int} {k : Nat} (h : Fk q1 q2 n d k) : Lq (Rat.divInt n d) k := ⟨(lim_q h).1, (lim_q h).2, h.k0⟩
theorem Lq.add {p q : Rat} {k j : Nat} (h : Lq p k) (h' : Lq q j) : Lq (p + q) (k + j + 1) := by
 have e := rat_add (a := p.num) (b := p.den) (c := q.num) (d := q.den) (by have := den_pos' p; omega) (by have := den_pos' q; omega)
 rw [rat_self, rat_self] at e
 rw [← e]
 exact ⟨lim_num ((h.n.mul h'.d).add ((h'.n.mul h.d).mono (by omega))), lim_den ((h.d.mul h'.d).mono (by omega)) (by omega), by omega⟩
theorem Lq.neg {p : Rat} {k : Nat} (h : Lq p k) : Lq (-p) k := ⟨by rw [Rat.neg_num]; exact h.n.neg, by rw [Rat.neg_den]; exact h.d, h.k0⟩
theorem Lq.sub {p q : Rat} {k j : Nat} (h : Lq p k) (h' : Lq q j) : Lq (p - q) (k + j + 1) := by rw [Rat.sub_eq_add_neg]; exact h.add h'.neg
theorem Lq.mul {p q : Rat} {k j : Nat} (h : Lq p k) (h' : Lq q j) : Lq (p * q) (k + j) := by
 have e := rat_mul p.num p.den q.num q.den
 rw [rat_self, rat_self] at e
 rw [← e]
 have := h.k0
 exact ⟨lim_num (h.n.mul h'.n), lim_den (h.d.mul h'.d) (by omega), by omega⟩
theorem Lq.int {z : Int} {k : Nat} (h : Lim k z) (k0 : 0 < k) : Lq (z : Rat) k := ⟨h, lim_one k0, k0⟩
section
variable {I : WInv} {n d : Int} {k : Nat} {q1 q2 : IntP}
end

/-! ### Light of fractions -/
abbrev Fg := Dg × Dg
section
variable {I : WInv}
end
end Go.Proofs.Ytflajoflpkboiaa

/- Fractions: division; the kit of the laws. -/
namespace Go.Proofs.Ytflajoflpkboiaa
open Go Go.RowKit
set_option linter.unusedVariables false
set_option linter.unusedSimpArgs false

section
variable {I : WInv} {n d n' d' : Int} {k k' : Nat} {q1 q2 q3 q4 : IntP}
end
/-! ### arguments of the laws -/
abbrev W2 (p : Fg) : Prop := W32 p.1.2 ∧ W32 p.2.2
end Go.Proofs.Ytflajoflpkboiaa

/- Sums of fractions, of the program and of the reference. -/
namespace Go.Proofs.Ytflajoflpkboiaa
open Go Go.RowKit
set_option linter.unusedVariables false
set_option linter.unusedSimpArgs false

section
variable {I : WInv}
end
end Go.Proofs.Ytflajoflpkboiaa

/- Fractions as one item of four cells: the value, a bound on the digits, canonical or not; the contracts of the fraction functions at this item. -/
namespace Go.Proofs.Ytflajoflpkboiaa
open Go Go.RowKit
set_option linter.unusedVariables false
set_option linter.unusedSimpArgs false

/-- a fraction of value q, with at most k digits in each part; c: canonical -/
def fF (c : Bool) (k : Nat) (q : Rat) : Item where
 n := 4
 T := fun N w l => ∃ n d l1 l2, l = l1 ++ l2 ∧ (IP (aP k n)).T N w l1 ∧ (IP (aP k d)).T N w l2 ∧ Rat.divInt n d = q ∧ 0 < k ∧ (c = true → (IP (cP q.num)).T N w l1 ∧ (IP (cP (q.den : Int))).T N w l2)
 step := fun hw hN ⟨n, d, l1, l2, e, h1, h2, h3, h4, h5⟩ => ⟨n, d, l1, l2, e, (IP (aP k n)).step hw hN h1, (IP (aP k d)).step hw hN h2, h3, h4, fun hc => ⟨(IP _).step hw hN (h5 hc).1, (IP _).step hw hN (h5 hc).2⟩⟩
 len := fun ⟨n, d, l1, l2, e, h1, h2, _⟩ => by rw [e, List.length_append, (IP _).len h1, (IP _).len h2]; rfl
 one := fun ⟨n, d, l1, l2, e, h1, h2, _⟩ => by
  rw [e]
  intro v hv
  rcases List.mem_append.1 hv with hv | hv
  ·exact (IP _).one h1 v hv
  ·exact (IP _).one h2 v hv
abbrev fc (c : Bool) (k : Nat) (q : Rat) : CT := .ag [.b (.it (fF c k q))]
abbrev tfc (c : Bool) (k : Nat) (q : Rat) : TV := .cv (fc c k q)
theorem fF_le {c c' : Bool} {k k' : Nat} {q q' : Rat} (hc : c' = true → c = true) (hk : k ≤ k') (hq : q = q') : ItLe (fF c k q) (fF c' k' q') := by
 subst hq
 rintro N w l ⟨n, d, l1, l2, e, ⟨s1, A1, n1, c1, e1, h1, h1'⟩, ⟨s2, A2, n2, c2, e2, h2, h2'⟩, h3, h4, h5⟩
 exact ⟨n, d, l1, l2, e, ⟨s1, A1, n1, c1, e1, h1, Nat.le_trans h1' hk⟩, ⟨s2, A2, n2, c2, e2, h2, Nat.le_trans h2' hk⟩, h3, by omega, fun h => h5 (hc h)⟩
theorem fc_le {c c' : Bool} {k k' : Nat} {q q' : Rat} (hc : c' = true → c = true) (hk : k ≤ k') (hq : q = q') : CTle (fc c k q) (fc c' k' q') := (ILe.cons (fF_le hc hk hq).x ILe.refl).ag
theorem fc_any {c : Bool} {k k' : Nat} {q : Rat} (hk : k ≤ k') : CTle (fc c k q) (fc false k' q) := fc_le (fun h => by cases h) hk rfl
theorem fc_up {c : Bool} {k k' : Nat} {q : Rat} (hk : k ≤ k') : CTle (fc c k q) (fc c k' q) := fc_le (fun h => h) hk rfl
theorem frc_fc {k : Nat} {q : Rat} (h : Lq q k) : CTle (frc q) (fc true k q) := by
 rintro N w g v ⟨vs, e, hl⟩
 obtain ⟨l1, l2, e2, h1, l3, l4, e3, h2, h3⟩ := hl
 have h3 : l4 = [] := h3
 subst h3
 rw [List.append_nil] at e3
 subst e3
 have g1 : (IP (cP q.num)).T N w l1 := h1
 have g2 : (IP (cP (q.den : Int))).T N w l2 := h2
 obtain ⟨s, A, n, c, q1, q2⟩ := h1
 obtain ⟨s', A', n', c', q3, q4⟩ := h2
 refine ⟨vs, e, vs, [], by simp, ⟨q.num, q.den, l1, l2, e2, ⟨s, A, n, c, q1, CInt.any q2, CInt.len q2 h.n⟩, ⟨s', A', n', c', q3, CInt.any q4, CInt.len q4 h.d⟩, rat_self q, h.k0, fun _ => ⟨g1, g2⟩⟩, rfl⟩
theorem fc_frc {k : Nat} {q : Rat} : CTle (fc true k q) (frc q) := by
 rintro N w g v ⟨vs, e, hl⟩
 obtain ⟨n, d, l1, l2, e1, h1, h2, h3, h4, h5⟩ := semL_one hl
 obtain ⟨g1, g2⟩ := h5 rfl
 exact ⟨vs, e, l1, l2, e1, g1, l2, [], by simp, g2, rfl⟩
abbrev zl : List It := [.b (.lit (.bool false)), .b (.lit (.slice none 0 0)), .b (.lit (.bool false)), .b (.lit (.slice none 0 0))]
theorem ap_lit (N : Nat → Prop) (w : World) {k : Nat} : (IP (aP k 0)).T N w [.bool false, .slice none 0 0] := ⟨false, none, 0, 0, rfl, (CInt.zero w).any, Nat.zero_le _⟩
theorem zl_any : CTle (.ag zl) (fc false 1 0) := by
 rintro N w g v ⟨vs, e, hl⟩
 obtain ⟨l1, r1, e1, h1, l2, r2, e2, h2, l3, r3, e3, h3, l4, r4, e4, h4, h5⟩ := hl
 have h5 : r4 = [] := h5
 have h1 : l1 = [_] := h1
 have h2 : l2 = [_] := h2
 have h3 : l3 = [_] := h3
 have h4 : l4 = [_] := h4
 subst h5 h1 h2 h3 h4 e4 e3 e2 e1
 exact ⟨_, e, _, [], rfl, ⟨0, 0, [.bool false, .slice none 0 0], [.bool false, .slice none 0 0], rfl, ap_lit N w, ap_lit N w, by rw [zero_rat]; rfl, by omega, fun h => by cases h⟩, rfl⟩
section
variable {I : WInv} {f : FuncId} {res : TV} {c c' : Bool} {k j : Nat} {p q : Rat}
theorem fc_open {N : Nat → Prop} {w : World} {v : Value} (h : (fc c k q).sem N w G0 v) : ∃ n d, Lim k n ∧ Lim k d ∧ 0 < k ∧ Rat.divInt n d = q ∧ (fr (aP k n) (aP k d)).sem N w G0 v := by
 obtain ⟨vs, e, hl⟩ := h
 obtain ⟨n, d, l1, l2, e1, h1, h2, h3, h4, h5⟩ := semL_one hl
 have g1 := h1
 have g2 := h2
 obtain ⟨s, A, n1, c1, q1, q2, q3⟩ := h1
 obtain ⟨s', A', n2, c2, q4, q5, q6⟩ := h2
 exact ⟨n, d, q2.lim.mono q3, q5.lim.mono q6, h4, h3, vs, e, l1, l2, e1, g1, l2, [], by simp, g2, rfl⟩
theorem lift1 (h : ∀ n d, Fk (aP k n) (aP k d) n d k → Rat.divInt n d = q → Sp Try.prog I f [fr (aP k n) (aP k d)] res) (hk : k ≤ 262144) : Sp Try.prog I f [fc c k q] res := by
 intro N w vs hI hl hv
 obtain ⟨v, r, e, h1, h2⟩ := hv
 obtain ⟨n, d, a, b, k0, hq, hs⟩ := fc_open h1
 exact h n d ⟨num_ia (by omega), num_ia (by omega), a, b, k0, hk⟩ hq N w vs hI hl ⟨v, r, e, hs, h2⟩
theorem lift2 (h : ∀ n d n' d', Fk (aP k n) (aP k d) n d k → Fk (aP j n') (aP j d') n' d' j → Rat.divInt n d = p → Rat.divInt n' d' = q → Sp Try.prog I f [fr (aP k n) (aP k d), fr (aP j n') (aP j d')] res) (hk : k ≤ 262144) (hj : j ≤ 262144) : Sp Try.prog I f [fc c k p, fc c' j q] res := by
 intro N w vs hI hl hv
 obtain ⟨v, r, e, h1, v2, r2, e2, h2, h3⟩ := hv
 obtain ⟨n, d, a, b, k0, hq, hs⟩ := fc_open h1
 obtain ⟨n', d', a', b', k0', hq', hs'⟩ := fc_open h2
 exact h n d n' d' ⟨num_ia (by omega), num_ia (by omega), a, b, k0, hk⟩ ⟨num_ia (by omega), num_ia (by omega), a', b', k0', hj⟩ hq hq' N w vs hI hl ⟨v, r, e, hs, v2, r2, e2, hs', h3⟩
theorem addF (h : k + j ≤ 262144) : Sp Try.prog I 23 [fc c k p, fc c' j q] (tfc true (k + j + 1) (p + q)) :=
 lift2 (fun n d n' d' a b e e' => by subst e e'; exact (addq_sp a b h).rs (frc_fc (a.lq.add b.lq)).tv) (by omega) (by omega)
theorem cmpF (r : Int) (hr : cmpq p q = r) (h : k + j ≤ 262144) : Sp Try.prog I 37 [fc c k p, fc c' j q] (li r) :=
 lift2 (fun n d n' d' a b e e' => by subst e e'; exact cmpq_sp r a b h hr) (by omega) (by omega)
/-! ### integers with few digits -/
def kP (k : Nat) (z : Int) : IntP := ⟨fun w s A n c => CInt w s A n c z ∧ n ≤ k, fun hw h => ⟨h.1.step hw, h.2⟩⟩
abbrev ik (k : Nat) (z : Int) : List It := ip (kP k z)
theorem num_kP {z : Int} (h : k ≤ 1048576) : Num (ik k z) z := by
 intro N w l hl
 obtain ⟨s, A, n, c, e, h1, h2⟩ := semL_one hl
 exact ⟨s, A, n, c, e, h1.any, Nat.le_trans h2 h⟩
theorem can_kP {z : Int} : Can (ik k z) z := by
 intro N w l hl
 obtain ⟨s, A, n, c, e, h1, h2⟩ := semL_one hl
 exact ⟨s, A, n, c, e, h1⟩
theorem ic_kP {z : Int} (h : Lim k z) : CTle (.ag (ic z)) (.ag (ik k z)) := by
 rintro N w g v ⟨vs, e, l1, l2, e1, ⟨s, A, n, c, e2, h1⟩, h2⟩
 exact ⟨vs, e, l1, l2, e1, ⟨s, A, n, c, e2, h1, CInt.len h1 h⟩, h2⟩
theorem fc_fk2 {k : Nat} {q : Rat} : CTle (fc true k q) (.ag (ik k q.num ++ ik k (q.den : Int))) := by
 rintro N w g v ⟨vs, e, hl⟩
 obtain ⟨n, d, l1, l2, e1, h1, h2, h3, h4, h5⟩ := semL_one hl
 obtain ⟨g1, g2⟩ := h5 rfl
 obtain ⟨s, A, m, c, q1, q2⟩ := g1
 obtain ⟨s', A', m', c', q3, q4⟩ := g2
 obtain ⟨t, B, i, a, r1, r2, r3⟩ := h1
 obtain ⟨t', B', i', a', r4, r5, r6⟩ := h2
 rw [q1] at r1
 rw [q3] at r4
 injection r1 with r1 r7
 injection r7 with r7 r8
 injection r7 with r7 r9 r10
 injection r4 with r4 r11
 injection r11 with r11 r12
 injection r11 with r11 r13 r14
 subst r9 r13
 exact ⟨vs, e, l1, l2, e1, ⟨s, A, m, c, q1, q2, r3⟩, l2, [], by simp, ⟨s', A', m', c', q3, q4, r6⟩, rfl⟩
theorem ceilF (h : k ≤ 262144) : Sp Try.prog I 35 [fc c k p] (.cv (.ag (ik (k + 1) (clq p)))) :=
 lift1 (fun n d a e => by subst e; exact (ceilq_sp a).rs (ic_kP (a.lq.n.neg.fdiv _).neg).tv) h
/-! ### the digits of an argument -/
end
end Go.Proofs.Ytflajoflpkboiaa

/- Contracts of the integer functions at canonical integers with few digits. -/
namespace Go.Proofs.Ytflajoflpkboiaa
open Go Go.RowKit
set_option linter.unusedVariables false
set_option linter.unusedSimpArgs false

section
variable {I : WInv} {f : FuncId} {res : TV} {k j m : Nat} {a b : Int}
theorem limK {N : Nat → Prop} {w : World} {g : Gh} {v : Value} (h : (CT.ag (ik k a)).sem N w g v) : Lim k a := by
 obtain ⟨vs, e, l1, l2, e1, ⟨s, A, n, c, e2, h1, h2⟩, h3⟩ := h
 exact (AInt.lim h1.any).mono h2
theorem kint1 (h : Lim k a → Sp Try.prog I f [.ag (ik k a)] res) : Sp Try.prog I f [.ag (ik k a)] res := by
 intro N w vs hI hl hv
 obtain ⟨v, r, e, h1, h2⟩ := hv
 exact h (limK h1) N w vs hI hl ⟨v, r, e, h1, h2⟩
theorem kint2 (h : Lim k a → Lim j b → Sp Try.prog I f [.ag (ik k a), .ag (ik j b)] res) : Sp Try.prog I f [.ag (ik k a), .ag (ik j b)] res := by
 intro N w vs hI hl hv
 obtain ⟨v, r, e, h1, v2, r2, e2, h2, h3⟩ := hv
 exact h (limK h1) (limK h2) N w vs hI hl ⟨v, r, e, h1, v2, r2, e2, h2, h3⟩
theorem ri64F (a : Int) (h : R64 a) : Sp Try.prog I 12 [ci a] (.cv (.ag (ik 2 a))) := (ri64_sp a h.1 h.2).rs (ic_kP (lim64 h)).tv
theorem rsameK (r : Bool) (hr : decide (a = b) = r) : Sp Try.prog I 39 [.ag (ik k a), .ag (ik j b)] (lb r) := same_sp r can_kP can_kP hr
theorem fc_down {q : Rat} (h : Lq q k) : CTle (fc true j q) (fc true k q) := fun N w g v hv => frc_fc h N w g v (fc_frc N w g v hv)
end
end Go.Proofs.Ytflajoflpkboiaa

/- Fractions of the second reference; ceilings as ints. -/
namespace Go.Proofs.Ytflajoflpkboiaa
open Go Go.RowKit
set_option linter.unusedVariables false
set_option linter.unusedSimpArgs false

section
variable {I : WInv} {c c' : Bool} {k j : Nat} {p q : Rat} {n d : Int}
theorem new25_any {q1 q2 : IntP} (h1 : Num (ip q1) n) (h2 : Num (ip q2) d) (hk1 : Lim 1048576 n) (hk2 : Lim 1048576 d) : Sp Try.prog I 11 [.ag (ip q1), .ag (ip q2)] (tfr (Rat.divInt n d)) := by
 by_cases hd : d = 0
 ·have e : Rat.divInt n d = 0 := by subst hd; exact Rat.divInt_zero n
  rw [e]
  refine Sp.res (res := .cv (.ag (litI ++ ic 1))) ?_ fun N w v h => zero_lits h
  exact sp_run (nt := 53) 1000 [po (ri64_sp 1 (by omega) (by omega)), po (rsign_sp 0 h2 (by rw [hd]; rfl))] (by kernel_rfl)
 ·by_cases hn : n = 0
  ·have e : Rat.divInt n d = 0 := by subst hn; exact Rat.zero_divInt d
   rw [e]
   refine Sp.res (res := .cv (.ag (litI ++ ic 1))) ?_ fun N w v h => zero_lits h
   rcases Int.lt_or_gt_of_ne hd with hdd | hdd
   ·exact sp_run (nt := 53) 1000 [po (ri64_sp 1 (by omega) (by omega)), po (rsign_sp (-1) h2 (Int.sign_eq_neg_one_of_neg hdd)), po (rsign_sp 0 h1 (by rw [hn]; rfl))] (by kernel_rfl)
   ·exact sp_run (nt := 53) 1000 [po (ri64_sp 1 (by omega) (by omega)), po (rsign_sp 1 h2 (Int.sign_eq_one_of_pos hdd)), po (rsign_sp 0 h1 (by rw [hn]; rfl))] (by kernel_rfl)
  ·obtain ⟨sn, hsn, hs2⟩ : ∃ s, n.sign = s ∧ (s = 1 ∨ s = -1) := by
    rcases Int.lt_or_gt_of_ne hn with h | h
    ·exact ⟨_, Int.sign_eq_neg_one_of_neg h, .inr rfl⟩
    ·exact ⟨_, Int.sign_eq_one_of_pos h, .inl rfl⟩
   have ln := lim_num (d := d) hk1
   have ld := lim_den (n := n) hk2 (by omega)
   rcases Int.lt_or_gt_of_ne hd with hdd | hdd
   ·have m1 : Num (ic (-n)) (-n) := num_ic hk1.neg (Nat.le_refl _)
    have m2 : Num (ic (-d)) (-d) := num_ic hk2.neg (Nat.le_refl _)
    have hp : 0 < -d := by omega
    have hg := gcd_ne (n := -n) (d := -d) (by omega)
    have mg : Num (ic ((Nat.gcd (-n).natAbs (-d).natAbs : Nat) : Int)) _ := num_ic (lim_gcd hk2.neg (by omega)) (Nat.le_refl _)
    rw [← rat_neg n d] at ln ld ⊢
    unfold tfr frc
    rw [rat_num_pos hp] at ln ⊢
    rw [rat_den_pos hp] at ld ⊢
    have c1 := num_ic ln (Nat.le_refl _)
    have c2 := num_ic ld (Nat.le_refl _)
    rcases hs2 with rfl | rfl <;> exact sp_run (nt := 53) 1000 [po (ri64_sp 1 (by omega) (by omega)), po (rsign_sp (-1) h2 (Int.sign_eq_neg_one_of_neg hdd)), po (rsign_sp _ h1 hsn), po (rsign_sp (-1) h2 (Int.sign_eq_neg_one_of_neg hdd)), po (rneg_sp h1), po (rneg_sp h2), po (rgcd_sp m1 m2), po (rdm_sp m1 mg hg), po (rdm_sp m2 mg hg), po (rcanon_sp c1), po (rcanon_sp c2)] (by kernel_rfl)
   ·have hp : 0 < d := hdd
    have hg := gcd_ne (n := n) (d := d) (by omega)
    have mg : Num (ic ((Nat.gcd n.natAbs d.natAbs : Nat) : Int)) _ := num_ic (lim_gcd hk2 (by omega)) (Nat.le_refl _)
    unfold tfr frc
    rw [rat_num_pos hp] at ln ⊢
    rw [rat_den_pos hp] at ld ⊢
    have c1 := num_ic ln (Nat.le_refl _)
    have c2 := num_ic ld (Nat.le_refl _)
    rcases hs2 with rfl | rfl <;> exact sp_run (nt := 53) 1000 [po (ri64_sp 1 (by omega) (by omega)), po (rsign_sp 1 h2 (Int.sign_eq_one_of_pos hdd)), po (rsign_sp _ h1 hsn), po (rsign_sp 1 h2 (Int.sign_eq_one_of_pos hdd)), po (rgcd_sp h1 h2), po (rdm_sp h1 mg hg), po (rdm_sp h2 mg hg), po (rcanon_sp c1), po (rcanon_sp c2)] (by kernel_rfl)
/-- two integers with few digits -/
theorem new25K {m : Nat} {a b : Int} (hk : k ≤ m) (hj : j ≤ m) (h0 : 0 < m) (hm : m ≤ 262144) : Sp Try.prog I 11 [.ag (ik k a), .ag (ik j b)] (tfc true m (Rat.divInt a b)) :=
 kint2 fun l1 l2 => (new25_any (num_kP (by omega)) (num_kP (by omega)) (l1.mono (by omega)) (l2.mono (by omega))).rs (frc_fc (Fk.lq ⟨num_kP (k := k) (by omega), num_kP (k := j) (by omega), l1.mono hk, l2.mono hj, h0, hm⟩)).tv

theorem cmpq_leA {a b : Rat} (h : a ≤ b) : decide (cmpq a b ≤ 0) = true := by
 unfold cmpq
 by_cases h1 : a < b
 ·rw [if_pos h1]; rfl
 ·rw [if_neg h1, if_pos (by grind)]; rfl
theorem cmpq_gtA {a b : Rat} (h : ¬ a ≤ b) : decide (cmpq a b ≤ 0) = false := by
 unfold cmpq
 rw [if_neg (by grind), if_neg (by grind)]; rfl
theorem sgn_sub : (p - q).num.sign = cmpq p q := by
 unfold cmpq
 by_cases h1 : p < q
 ·rw [if_pos h1]
  have h : ¬ 0 ≤ (p - q).num := fun h => by have := Rat.num_nonneg.1 h; grind
  exact Int.sign_eq_neg_one_of_neg (by omega)
 ·rw [if_neg h1]
  by_cases h2 : p = q
  ·rw [if_pos h2, h2, show q - q = 0 by grind]; rfl
  ·rw [if_neg h2]
   have h : ¬ 0 ≤ (-(p - q)).num := fun h => by have := Rat.num_nonneg.1 h; grind
   rw [Rat.neg_num] at h
   exact Int.sign_eq_one_of_pos (by omega)
theorem int25F (a : Int) (ha : R64 a) : Sp Try.prog I 5 [ci a] (tfc true 2 (a : Rat)) := by
 have e : Rat.divInt a 1 = (a : Rat) := by rw [Rat.divInt_eq_div, Rat.intCast_one, Rat.div_def]; grind
 rw [← e]
 exact sp_run (nt := 7) 1000 [po (ri64F (I := I) a ha), po (ri64F (I := I) 1 ⟨by omega, by omega⟩), po (new25K (I := I) (k := 2) (j := 2) (m := 2) (a := a) (b := 1) (by omega) (by omega) (by omega) (by omega))] (by kernel_rfl)
/-! ### ceilings -/
theorem rdm25K {a b : Int} (hk : k ≤ 1048576) (hj : j ≤ 1048576) (hb : b ≠ 0) : Sp Try.prog I 27 [.ag (ik k a), .ag (ik j b)] (.tu [.ag (ik (k + 1) (a.fdiv b)), .ag (ik j (a.fmod b)), ci 0]) :=
 kint2 fun l1 l2 => (rdm_sp (num_kP hk) (num_kP hj) hb).rs (tu_le ⟨ic_kP (l1.fdiv _), ic_kP (l2.fmod hb), CTle.refl, trivial⟩)
theorem rcanon25K {a : Int} (hk : k ≤ 1048576) : Sp Try.prog I 28 [.ag (ik k a)] (.cv (.ag (ik k a))) := kint1 fun l => (rcanon_sp (num_kP hk)).rs (ic_kP l).tv
theorem fmod_sgn {p : Rat} : decide ((p.num.fmod (p.den : Int)).sign < 0) = false := decide_eq_false fun h => by
 have h1 := Int.sign_neg_iff.1 h
 have h2 := p.den_pos
 have := Int.fmod_nonneg_of_pos p.num (b := (p.den : Int)) (by omega)
 omega
theorem to64_sp {x : List It} {z : Int} (hx : Num x z) : Sp Try.prog I 34 [.ag x] (.tu [ci (to64 z), ci (cd64 z)]) := by
 intro N w vs _ _ hv
 obtain ⟨l, rfl, h1⟩ := args1 hv
 obtain ⟨s, A, n, c, rfl, h2, h3⟩ := hx N w l h1
 exact (toInt64_any w h2).mono fun e w' he => ⟨_, he.1, ⟨_, rfl, _, _, rfl, (rfl : [_] = [_]), _, _, rfl, (rfl : [_] = [_]), rfl⟩, he.2⟩
/-- the ceiling is within its limits -/
def okc (q : Rat) : Bool := decide (-1152921504606846976 ≤ clq q ∧ clq q ≤ 1152921504606846976)
def civ (q : Rat) : Int := if okc q then clq q else 0
def cie (q : Rat) : Int := if okc q then 0 else 5
theorem inR_of {z : Int} (h1 : -1152921504606846976 ≤ z) (h2 : z ≤ 1152921504606846976) : inR z = true := by unfold inR; simp; omega
theorem inR_in {z : Int} (h : inR z = true) : -9223372036854775808 ≤ z ∧ z ≤ 9223372036854775807 := by unfold inR at h; simp at h; omega

theorem ceilInt_sp : Sp Try.prog I 17 [fc c 12 p] (.tu [ci (civ p), ci (cie p)]) := by
 have t0 := to64_sp (I := I) (num_kP (k := 13) (z := clq p) (by omega))
 unfold civ cie
 cases hr : inR (clq p) with
 | false =>
  have ho : okc p = false := by
   cases h : okc p with
   | false => rfl
   | true => have h := of_decide_eq_true h; rw [inR_of h.1 h.2] at hr; cases hr
  rw [ho]
  rw [(to64_out hr).1, (to64_out hr).2] at t0
  exact sp_run (nt := 23) 1000 [po (ceilF (I := I) (c := c) (k := 12) (p := p) (by omega)), po (t0), pa] (by kernel_rfl)
 | true =>
  rw [(to64_in hr).1, (to64_in hr).2] at t0
  obtain ⟨b1, b2⟩ := inR_in hr
  by_cases h1 : clq p < -1152921504606846976
  ·rw [show okc p = false from decide_eq_false (by omega)]
   exact sp_run (nt := 23) 1000 [po (ceilF (I := I) (c := c) (k := 12) (p := p) (by omega)), po (t0), pa, pk (bT_lss 2 (clq p) (-1152921504606846976))] (by kernel_rfl)
  ·by_cases h2 : clq p > 1152921504606846976
   ·rw [show okc p = false from decide_eq_false (by omega)]
    exact sp_run (nt := 23) 1000 [po (ceilF (I := I) (c := c) (k := 12) (p := p) (by omega)), po (t0), pa, pk (bF_lss 2 (clq p) (-1152921504606846976)), pk (bT_gtr 2 (clq p) 1152921504606846976)] (by kernel_rfl)
   ·rw [show okc p = true from decide_eq_true (by omega)]
    exact sp_run (nt := 23) 1000 [po (ceilF (I := I) (c := c) (k := 12) (p := p) (by omega)), po (t0), pa, pk (bF_lss 2 (clq p) (-1152921504606846976)), pk (bF_gtr 2 (clq p) 1152921504606846976)] (by kernel_rfl)
/-! ### fractions in new memory -/
theorem lq_open1 {g : FuncId} {res : TV} (h : Lq p k → Sp Try.prog I g [fc c k p] res) (hk : k ≤ 262144) : Sp Try.prog I g [fc c k p] res := by
 intro N w vs hI hl hv
 obtain ⟨v, r, e, h1, h2⟩ := hv
 obtain ⟨n, d, a, b, k0, hq, hs⟩ := fc_open h1
 have x1 : Fk (aP k n) (aP k d) n d k := ⟨num_ia (by omega), num_ia (by omega), a, b, k0, hk⟩
 exact h (hq ▸ x1.lq) N w vs hI hl ⟨v, r, e, h1, h2⟩
theorem fresh_sp : Sp Try.prog I 10 [fc c 12 p] (tfc true 12 p) := lq_open1 (fun l => by
 have s : Sp Try.prog I 10 [fc c 12 p] (tfc true 14 (p + 0)) := sp_run (nt := 6) 1000 [po (Sp.wk (args' := [.ag [.b (.it (fF c 12 p))], .ag [.b (.lit (.bool false)), .b (.lit (.slice none 0 0)), .b (.lit (.bool false)), .b (.lit (.slice none 0 0))]]) (addF (I := I) (c := c) (c' := false) (k := 12) (j := 1) (p := p) (q := 0) (by omega)) ⟨CTle.refl, zl_any, trivial⟩)] (by kernel_rfl)
 rw [Rat.add_zero] at s
 exact s.rs (fc_down l).tv) (by omega)
end
end Go.Proofs.Ytflajoflpkboiaa

/- Nodes as rows; small functions of the program over a tree that stays: settled, decided, path. -/
namespace Go.Proofs.Ytflajoflpkboiaa
open Go Go.RowKit
set_option linter.unusedVariables false
set_option linter.unusedSimpArgs false

structure Nd where
 par : Int
 fst : Int
 nxt : Int
 tog : Bool
 q : Rat
 st : Int
abbrev rowT (c : Bool) (x : Nd) : List It0 := [.lit (.int .i64 x.par), .lit (.int .i64 x.fst), .lit (.int .i64 x.nxt), .lit (.bool x.tog), .it (fF c 12 x.q), .lit (.int .i64 x.st)]
abbrev trI (c : Bool) (L : List Nd) : Item := slI 9 (L.map (rowT c))
def tat (L : List Nd) (i : Nat) : Nd := L.getD i ⟨0, 0, 0, false, 0, 0⟩
theorem tat_some {L : List Nd} {i : Nat} (h : i < L.length) : L[i]? = some (tat L i) := by unfold tat; rw [List.getD_eq_getElem?_getD, List.getElem?_eq_getElem h]; rfl
theorem tat_row {L : List Nd} {i : Nat} {f : Nd → List It0} (h : i < L.length) : (L.map f)[i]? = some (f (tat L i)) := map_some (tat_some h)
/-- a tree, handed over by value -/
abbrev trT (c : Bool) (L : List Nd) (f : Bool) (z : Int) : CT := .ag [.b (.it (trI c L)), .b (.lit (.bool f)), .b (.lit (.int .i64 z))]
abbrev ndT (c : Bool) (x : Nd) : CT := .ag [.b (.lit (.int .i64 x.par)), .b (.lit (.int .i64 x.fst)), .b (.lit (.int .i64 x.nxt)), .b (.lit (.bool x.tog)), .b (.it (fF c 12 x.q)), .b (.lit (.int .i64 x.st))]
/-- the nodes from a node up to the root, without the root -/
def ancs (L : List Nd) (i : Nat) : List Nat :=
 if h : 0 < i ∧ (tat L i).par.toNat < i then i :: ancs L (tat L i).par.toNat else []
termination_by i
decreasing_by exact h.2
/-- parents lie ahead of their children, up to node m -/
def Dn (L : List Nd) (m : Nat) : Prop := ∀ i, 0 < i → i ≤ m → 0 ≤ (tat L i).par ∧ (tat L i).par < (i : Int)
theorem Dn.nat {L : List Nd} {m i : Nat} (h : Dn L m) (h0 : 0 < i) (hi : i ≤ m) : ∃ j : Nat, (tat L i).par = (j : Int) ∧ j < i := ⟨(tat L i).par.toNat, by have := h i h0 hi; omega, by have := h i h0 hi; omega⟩
theorem ancs_zero (L : List Nd) : ancs L 0 = [] := by rw [ancs]; simp
theorem ancs_step {L : List Nd} {i j : Nat} (h : (tat L i).par = (j : Int)) (hj : j < i) : ancs L i = i :: ancs L j := by
 rw [ancs, dif_pos ⟨by omega, by rw [h]; exact hj⟩, h]; rfl
def decB (L : List Nd) (i : Nat) (f n : Int) : Bool := (ancs L i).any fun x => decide ((tat L x).fst = f) && decide ((tat L x).nxt = n)
theorem decB_zero (L : List Nd) (f n : Int) : decB L 0 f n = false := by unfold decB; rw [ancs_zero]; rfl
theorem decB_step {L : List Nd} {i j : Nat} {f n : Int} (h : (tat L i).par = (j : Int)) (hj : j < i) : decB L i f n = ((decide ((tat L i).fst = f) && decide ((tat L i).nxt = n)) || decB L j f n) := by
 unfold decB; rw [ancs_step h hj, List.any_cons]
def costB (z : Int) : Bool := decide (-288230376151711744 ≤ z) && decide (z ≤ 288230376151711744)
def setB (f : Bool) (z : Int) (q : Rat) : Bool := f && (okc q && decide (z ≤ civ q))

section
variable {I : WInv} {c : Bool}
theorem cost_sp (z : Int) : Sp Try.prog I 16 [ci z] (lb (costB z)) := by
 unfold costB
 by_cases h1 : -288230376151711744 ≤ z
 ·by_cases h2 : z ≤ 288230376151711744
  ·rw [decide_eq_true h1, decide_eq_true h2]
   exact sp_run (nt := 9) 1000 [pk (bT_geq 3 z (-288230376151711744)), pk (bT_leq 3 z 288230376151711744)] (by kernel_rfl)
  ·rw [decide_eq_true h1, decide_eq_false h2]
   exact sp_run (nt := 9) 1000 [pk (bT_geq 3 z (-288230376151711744)), pk (bF_leq 3 z 288230376151711744)] (by kernel_rfl)
 ·rw [decide_eq_false h1]
  exact sp_run (nt := 9) 1000 [pk (bF_geq 3 z (-288230376151711744))] (by kernel_rfl)
theorem cie_ok {q : Rat} (h : okc q = true) : cie q = 0 := by unfold cie; rw [h]; rfl
theorem cie_no {q : Rat} (h : okc q = false) : cie q = 5 := by unfold cie; rw [h]; rfl
theorem settled_sp (L : List Nd) (f : Bool) (z : Int) (c' : Bool) (x : Nd) : Sp Try.prog I 19 [trT c L f z, ndT c' x] (lb (setB f z x.q)) := by
 unfold setB
 cases f with
 | false => exact sp_run (nt := 25) 1000 [po (ceilInt_sp (I := I) (c := c') (p := x.q))] (by kernel_rfl)
 | true =>
  cases h : okc x.q with
  | false =>
   have e := cie_no h
   exact sp_run (nt := 25) 1000 [po (ceilInt_sp (I := I) (c := c') (p := x.q)), pk (bF_eql 32 (cie x.q) 0)] (by kernel_rfl)
  | true =>
   have e := cie_ok h
   by_cases h2 : z ≤ civ x.q
   ·rw [decide_eq_true h2]
    exact sp_run (nt := 25) 1000 [po (ceilInt_sp (I := I) (c := c') (p := x.q)), pk (bT_eql 32 (cie x.q) 0), pk (bT_geq 3 (civ x.q) z)] (by kernel_rfl)
   ·rw [decide_eq_false h2]
    exact sp_run (nt := 25) 1000 [po (ceilInt_sp (I := I) (c := c') (p := x.q)), pk (bT_eql 32 (cie x.q) 0), pk (bF_geq 3 (civ x.q) z)] (by kernel_rfl)

def decst (c : Bool) (L : List Nd) (f : Bool) (z x y k : Int) : Go.Proofs.Ytflajoflpkboiaa.St := ⟨[(4, .cv (.one (.ptr 0 0))), (2, .cv (.one (.b (.lit (.int .i64 x))))), (3, .cv (.one (.b (.lit (.int .i64 y))))), (9, .cv (.one (.b (.lit (.int .i64 k)))))], [(0, some ⟨24, none, [.b (.it (slI 9 ((L).map (rowT c)))), .b (.lit (.bool f)), .b (.lit (.int .i64 z))]⟩)], 50⟩
theorem decided_sp (L : List Nd) (f : Bool) (z : Int) (node : Nat) (x y : Int) (hD : Dn L node) (hn : node < L.length) : Sp Try.prog I 36 [trT c L f z, ci (node : Int), ci x, ci y] (lb (decB L node x y)) := by
 have rd : ∀ i j : Nat, 0 < i → i ≤ node → (tat L i).par = (j : Int) → (decide ((tat L i).fst = x) && decide ((tat L i).nxt = y)) = false → Rnd Try.prog I 36 (loopC Try.prog 36 0) (decst c L f z x y (i : Int)) .normal (decst c L f z x y (j : Int)) := by
  intro i j h0 hle hj hno
  have hi : i < L.length := by omega
  by_cases h1 : (tat L i).fst = x
  ·have h2 : ¬ (tat L i).nxt = y := fun h2 => by rw [decide_eq_true h1, decide_eq_true h2] at hno; cases hno
   have r : Rnd Try.prog I 36 (loopC Try.prog 36 0) (decst c L f z x y (i : Int)) .normal (decst c L f z x y (tat L i).par) := rnd_run 1000 [pk (bT_gtr 3 (i : Int) 0), pk (sl_ix 22 46 9 ((L).map (rowT c)) i (i : Int) ((rowT c) (tat L i)) (tat_row hi)), pk (b_eql 3 ((tat L i).fst) x true (decide_eq_true h1)), pk (b_eql 3 ((tat L i).nxt) y false (decide_eq_false h2)), pk (sl_ix 22 46 9 ((L).map (rowT c)) i (i : Int) ((rowT c) (tat L i)) (tat_row hi))] (by kernel_rfl)
   rw [hj] at r
   exact r
  ·have r : Rnd Try.prog I 36 (loopC Try.prog 36 0) (decst c L f z x y (i : Int)) .normal (decst c L f z x y (tat L i).par) := rnd_run 1000 [pk (bT_gtr 3 (i : Int) 0), pk (sl_ix 22 46 9 ((L).map (rowT c)) i (i : Int) ((rowT c) (tat L i)) (tat_row hi)), pk (b_eql 3 ((tat L i).fst) x false (decide_eq_false h1)), pk (sl_ix 22 46 9 ((L).map (rowT c)) i (i : Int) ((rowT c) (tat L i)) (tat_row hi))] (by kernel_rfl)
   rw [hj] at r
   exact r
 cases hd : decB L node x y with
 | false =>
  have lo : LoopTr Try.prog I 36 (loopC Try.prog 36 0) (decst c L f z x y (node : Int)) (.exit 0) ⟨[], [], 50⟩ := by
   refine loop_tr (ι := Nat) (by simp) (fun i => decst c L f z x y (i : Int)) id (fun i => i ≤ node ∧ decB L i x y = false) node ⟨Nat.le_refl _, hd⟩ ?_
   rintro i ⟨h1, h2⟩
   by_cases h0 : i = 0
   ·subst h0
    right
    exact rnd_run 1000 [pk (bF_gtr 3 ((0 : Nat) : Int) 0)] (by kernel_rfl)
   ·left
    obtain ⟨j, hj, hlt⟩ := hD.nat (Nat.pos_of_ne_zero h0) h1
    rw [decB_step hj hlt, Bool.or_eq_false_iff] at h2
    exact ⟨j, ⟨by omega, h2.2⟩, hlt, rd i j (Nat.pos_of_ne_zero h0) h1 hj h2.1⟩
  exact sp_run (nt := 36) 1000 [pl (lo)] (by kernel_rfl)
 | true =>
  have lo : LoopTr Try.prog I 36 (loopC Try.prog 36 0) (decst c L f z x y (node : Int)) .ret ⟨[(8, lb true)], [], 50⟩ := by
   refine loop_tr (ι := Nat) (by simp) (fun i => decst c L f z x y (i : Int)) id (fun i => i ≤ node ∧ decB L i x y = true) node ⟨Nat.le_refl _, hd⟩ ?_
   rintro i ⟨h1, h2⟩
   by_cases h0 : i = 0
   ·subst h0; rw [decB_zero] at h2; cases h2
   ·obtain ⟨j, hj, hlt⟩ := hD.nat (Nat.pos_of_ne_zero h0) h1
    cases hno : (decide ((tat L i).fst = x) && decide ((tat L i).nxt = y)) with
    | false =>
     left
     rw [decB_step hj hlt, hno, Bool.false_or] at h2
     exact ⟨j, ⟨by omega, h2⟩, hlt, rd i j (Nat.pos_of_ne_zero h0) h1 hj hno⟩
    | true =>
     right
     rw [Bool.and_eq_true] at hno
     have hi : i < L.length := by omega
     exact rnd_run 1000 [pk (bT_gtr 3 (i : Int) 0), pk (sl_ix 22 46 9 ((L).map (rowT c)) i (i : Int) ((rowT c) (tat L i)) (tat_row hi)), pk (b_eql 3 ((tat L i).fst) x true hno.1), pk (b_eql 3 ((tat L i).nxt) y true hno.2)] (by kernel_rfl)
  exact sp_run (nt := 36) 1000 [pl (lo)] (by kernel_rfl)
end
end Go.Proofs.Ytflajoflpkboiaa

/- Lists of decisions: reversal of one's own, path of the program. -/
namespace Go.Proofs.Ytflajoflpkboiaa
open Go Go.RowKit
set_option linter.unusedVariables false
set_option linter.unusedSimpArgs false

abbrev De := Int × Int × Bool
abbrev rowD (x : De) : List It0 := [.lit (.int .i64 x.1), .lit (.int .i64 x.2.1), .lit (.bool x.2.2)]
abbrev deI (D : List De) : Item := slI 3 (D.map rowD)
def dat (D : List De) (i : Nat) : De := D.getD i (0, 0, false)
theorem dat_some {D : List De} {i : Nat} (h : i < D.length) : D[i]? = some (dat D i) := by unfold dat; rw [List.getD_eq_getElem?_getD, List.getElem?_eq_getElem h]; rfl
theorem dat_row {D : List De} {i : Nat} {f : De → List It0} (h : i < D.length) : (D.map f)[i]? = some (f (dat D i)) := map_some (dat_some h)
/-- the first i and the last i exchanged -/
def swp (D : List De) : Nat → List De
 | 0 => D
 | i + 1 => ((swp D i).set i (dat (swp D i) (D.length - 1 - i))).set (D.length - 1 - i) (dat (swp D i) i)
theorem swp_len (D : List De) : ∀ i, (swp D i).length = D.length
 | 0 => rfl
 | i + 1 => by rw [swp, List.length_set, List.length_set, swp_len D i]
theorem swp_get (D : List De) : ∀ i, 2 * i ≤ D.length → ∀ x, x < D.length → (swp D i)[x]? = if x < i ∨ D.length ≤ x + i then D[D.length - 1 - x]? else D[x]?
 | 0, _, x, hx => by rw [if_neg (by omega)]; rfl
 | i + 1, hi, x, hx => by
  have h1 := swp_get D i (by omega)
  have hl := swp_len D i
  rw [swp, List.getElem?_set, List.getElem?_set, List.length_set, hl]
  have e1 : (swp D i)[D.length - 1 - i]? = some (dat (swp D i) (D.length - 1 - i)) := dat_some (by rw [hl]; omega)
  have e2 : (swp D i)[i]? = some (dat (swp D i) i) := dat_some (by rw [hl]; omega)
  rw [h1 _ (by omega), if_neg (by omega)] at e1 e2
  by_cases h2 : D.length - 1 - i = x
  ·rw [if_pos h2, if_pos (by omega), if_pos (by omega), ← e2, show D.length - 1 - x = i by omega]
  ·rw [if_neg h2]
   by_cases h3 : i = x
   ·rw [if_pos h3, if_pos (by omega), if_pos (by omega), ← e1, show D.length - 1 - x = D.length - 1 - i by omega]
   ·rw [if_neg h3, h1 x hx]
    by_cases h4 : x < i ∨ D.length ≤ x + i
    ·rw [if_pos h4, if_pos (by omega)]
    ·rw [if_neg h4, if_neg (by omega)]
theorem swp_end (D : List De) : swp D (D.length / 2) = D.reverse := by
 apply List.ext_getElem?
 intro x
 by_cases hx : x < D.length
 ·rw [swp_get D _ (by omega) x hx, List.getElem?_reverse hx]
  by_cases h : x < D.length / 2 ∨ D.length ≤ x + D.length / 2
  ·rw [if_pos h]
  ·rw [if_neg h, show D.length - 1 - x = x by omega]
 ·rw [List.getElem?_eq_none (by rw [swp_len]; omega), List.getElem?_eq_none (by rw [List.length_reverse]; omega)]
theorem rowD_w {D : List De} : ∀ r ∈ D.map rowD, widthO r = 3 := by intro r hr; obtain ⟨x, _, rfl⟩ := List.mem_map.1 hr; rfl

theorem rowD_ok {D : List De} : okR 3 (D.map rowD) := by
 intro r hr
 obtain ⟨x, _, rfl⟩ := List.mem_map.1 hr
 refine ⟨rfl, fun y hy => ?_⟩
 simp at hy
 rcases hy with rfl | rfl | rfl <;> exact Nat.one_pos
theorem upd_dec {D : List De} {i : Nat} (h : i < D.length) (x : De) : updAt (flatR (D.map rowD)) (i * 3) [.b (.lit (.int .i64 x.1)), .b (.lit (.int .i64 x.2.1)), .b (.lit (.bool x.2.2))] = some (flatR ((D.set i x).map rowD)) := by
 have := upd_row (sz := 3) (r := rowD (dat D i)) (r' := rowD x) (new := [.b (.lit (.int .i64 x.1)), .b (.lit (.int .i64 x.2.1)), .b (.lit (.bool x.2.2))]) (dat_row (f := rowD) h) rowD_ok (fo := 0) rfl
 rw [← List.map_set] at this
 exact this
def revst (D : List De) (n : Nat) (a b : Int) : Go.Proofs.Ytflajoflpkboiaa.St := ⟨[(0, .cv (.one (.sl 0))), (2, .cv (.one (.b (.lit (.int .i64 a))))), (3, .cv (.one (.b (.lit (.int .i64 b)))))], [(0, some ⟨44, some (3, n), flatR ((D).map rowD)⟩)], 50⟩
section
variable {I : WInv} {c : Bool}
theorem reverse_spm (D : List De) (hl : D.length ≤ 1000000) : SpM Try.prog I 33 [(0, some ⟨44, some (3, D.length), flatR (D.map rowD)⟩)] [.one (.sl 0)] [(0, some ⟨44, some (3, D.length), flatR (D.reverse.map rowD)⟩)] (.tu []) := by
 obtain ⟨n, hn⟩ : ∃ n, D.length = n := ⟨_, rfl⟩
 rw [hn]
 have lo : LoopTr Try.prog I 28 (loopC Try.prog 33 0) (revst (swp D 0) n ((0 : Nat) : Int) ((n : Int) - 1 - ((0 : Nat) : Int))) (.exit 0) ⟨[(0, .cv (.one (.sl 0)))], [(0, some ⟨44, some (3, n), flatR ((D.reverse).map rowD)⟩)], 50⟩ := by
  refine loop_up (by simp) (fun i => revst (swp D i) n (i : Int) ((n : Int) - 1 - (i : Int))) (n / 2) (fun i hi => ?_) ?_
  ·have h1 : i < (swp D i).length := by rw [swp_len]; omega
   have h2 : n - 1 - i < (swp D i).length := by rw [swp_len]; omega
   have r : Rnd Try.prog I 28 (loopC Try.prog 33 0) (revst (swp D i) n (i : Int) ((n : Int) - 1 - (i : Int))) .normal (revst (((swp D i).set i (dat (swp D i) (n - 1 - i))).set (n - 1 - i) (dat (swp D i) i)) n ((i : Int) + 1) ((n : Int) - 1 - (i : Int) - 1)) :=
    Rnd.cut (n := 50) (show Rnd _ _ _ _ _ _ ⟨[(0, .cv (.one (.sl 0))), (2, .cv (.one (.b (.lit (.int .i64 ((i : Int) + 1)))))), (3, .cv (.one (.b (.lit (.int .i64 (((n : Int) - 1 - (i : Int)) - 1))))))], [(0, some ⟨44, some (3, n), flatR ((((swp D i).set i (dat (swp D i) (n - 1 - i))).set (n - 1 - i) (dat (swp D i) i)).map rowD)⟩)], 75⟩ from rnd_run 1000 [pk (bT_lss 3 (i : Int) ((n : Int) - 1 - (i : Int))), ⟨.ix ((n : Int) - 1 - (i : Int)) (n - 1 - i) n, ⟨by omega, by omega⟩⟩, ⟨.part (flatR ((swp D i).map rowD)) ((n - 1 - i) * 3) 3 [.b (.lit (.int .i64 ((dat (swp D i) (n - 1 - i)).1))), .b (.lit (.int .i64 ((dat (swp D i) (n - 1 - i)).2.1))), .b (.lit (.bool ((dat (swp D i) (n - 1 - i)).2.2)))], (sub_row (sz := 3) (r := rowD (dat (swp D i) (n - 1 - i))) (dat_row h2) rowD_ok (fo := 0) (n := 3) rfl)⟩, ⟨.ix (i : Int) i n, ⟨by omega, by omega⟩⟩, ⟨.part (flatR ((swp D i).map rowD)) (i * 3) 3 [.b (.lit (.int .i64 ((dat (swp D i) i).1))), .b (.lit (.int .i64 ((dat (swp D i) i).2.1))), .b (.lit (.bool ((dat (swp D i) i).2.2)))], (sub_row (sz := 3) (r := rowD (dat (swp D i) i)) (dat_row h1) rowD_ok (fo := 0) (n := 3) rfl)⟩, ⟨.ix (i : Int) i n, ⟨by omega, by omega⟩⟩, ⟨.upd (flatR ((swp D i).map rowD)) (i * 3) [.b (.lit (.int .i64 ((dat (swp D i) (n - 1 - i)).1))), .b (.lit (.int .i64 ((dat (swp D i) (n - 1 - i)).2.1))), .b (.lit (.bool ((dat (swp D i) (n - 1 - i)).2.2)))] (flatR (((swp D i).set i (dat (swp D i) (n - 1 - i))).map rowD)), (upd_dec h1 (dat (swp D i) (n - 1 - i)))⟩, ⟨.ix ((n : Int) - 1 - (i : Int)) (n - 1 - i) n, ⟨by omega, by omega⟩⟩, ⟨.upd (flatR (((swp D i).set i (dat (swp D i) (n - 1 - i))).map rowD)) ((n - 1 - i) * 3) [.b (.lit (.int .i64 ((dat (swp D i) i).1))), .b (.lit (.int .i64 ((dat (swp D i) i).2.1))), .b (.lit (.bool ((dat (swp D i) i).2.2)))] (flatR ((((swp D i).set i (dat (swp D i) (n - 1 - i))).set (n - 1 - i) (dat (swp D i) i)).map rowD)), (upd_dec (by rw [List.length_set]; exact h2) (dat (swp D i) i))⟩, pk (b_add 3 (i : Int) 1 ⟨by omega, by omega⟩), pk (b_sub 3 ((n : Int) - 1 - (i : Int)) 1 ⟨by omega, by omega⟩)] (by kernel_rfl)) rfl
   have e : ((swp D i).set i (dat (swp D i) (n - 1 - i))).set (n - 1 - i) (dat (swp D i) i) = swp D (i + 1) := by rw [swp, hn]
   rw [e, show (n : Int) - 1 - (i : Int) - 1 = (n : Int) - 1 - ((i + 1 : Nat) : Int) by omega] at r
   exact r
  ·have e := swp_end D
   rw [hn] at e
   rw [e]
   exact Rnd.cut (n := 50) (show Rnd _ _ _ _ _ _ ⟨[(0, .cv (.one (.sl 0)))], [(0, some ⟨44, some (3, n), flatR ((D.reverse).map rowD)⟩)], 53⟩ from rnd_run 1000 [pk (bF_lss 3 ((n / 2 : Nat) : Int) ((n : Int) - 1 - ((n / 2 : Nat) : Int)))] (by kernel_rfl)) rfl
 rw [show (n : Int) - 1 - ((0 : Nat) : Int) = (n : Int) - 1 by omega] at lo
 exact spm_run (nt := 28) 1000 [pk (b_sub 3 (n : Nat) 1 ⟨by omega, by omega⟩), pl (lo)] (by kernel_rfl)
/-- the decision of a node -/
def dcn (x : Nd) : De := (x.fst, x.nxt, x.tog)
/-- the decisions from a node up -/
def updec (L : List Nd) (i : Nat) : List De := (ancs L i).map fun x => dcn (tat L x)
theorem updec_zero (L : List Nd) : updec L 0 = [] := by unfold updec; rw [ancs_zero]; rfl
theorem updec_step {L : List Nd} {i j : Nat} (h : (tat L i).par = (j : Int)) (hj : j < i) : updec L i = dcn (tat L i) :: updec L j := by unfold updec; rw [ancs_step h hj, List.map_cons]
theorem ancs_len (L : List Nd) (i : Nat) : (ancs L i).length ≤ i := by
 induction i using Nat.strongRecOn with
 | _ i ih =>
  rw [ancs]
  by_cases h : 0 < i ∧ (tat L i).par.toNat < i
  ·rw [dif_pos h, List.length_cons]
   have := ih _ h.2
   omega
  ·rw [dif_neg h]; exact Nat.zero_le _
theorem updec_len (L : List Nd) (i : Nat) : (updec L i).length ≤ i := by unfold updec; rw [List.length_map]; exact ancs_len L i
/-- the decisions of a node, from the root down -/
def pathD (L : List Nd) (i : Nat) : List De := (updec L i).reverse
theorem nil_ownT {nt t k nx : Nat} {E : Env} {B : Bxs} (T s : Nat) (h : (avE k E && avB k B && Nat.blt k nx && Nat.ble 2 k) = true) (hB : lookB B nx = none) : Leads I nt ⟨(t, tlit (.slice none 0 0)) :: E, B, nx⟩ ⟨(t, .cv (.one (.sl k))) :: E, (k, some ⟨T, some (s, 0), []⟩) :: B, nx + 1⟩ := by
 simp only [Bool.and_eq_true] at h
 have := Nat.le_of_ble_eq_true h.2
 exact (nil_leads T s).trans (ren_leads (k := k) h.1.1.1 h.1.1.2 rfl (Nat.lt_succ_of_lt (blt_lt h.1.2)) hB)

def pathst (c : Bool) (L : List Nd) (f : Bool) (z : Int) (C : List De) (k : Int) : Go.Proofs.Ytflajoflpkboiaa.St := ⟨[(5, .cv (.one (.sl 40))), (2, .cv (.one (.ptr 0 0))), (6, .cv (.one (.b (.lit (.int .i64 k)))))], [(40, some ⟨44, some (3, ((C).map rowD).length), flatR ((C).map rowD)⟩), (0, some ⟨24, none, [.b (.it (slI 9 ((L).map (rowT c)))), .b (.lit (.bool f)), .b (.lit (.int .i64 z))]⟩)], 50⟩
theorem path_loop (L : List Nd) (f : Bool) (z : Int) (node : Nat) (hD : Dn L node) (hn : node < L.length) (hl : L.length ≤ 1000000) : LoopTr Try.prog I 28 (loopC Try.prog 15 0) (pathst c L f z [] (node : Int)) (.exit 0) ⟨[(5, .cv (.one (.sl 40)))], [(40, some ⟨44, some (3, ((updec L node).map rowD).length), flatR ((updec L node).map rowD)⟩)], 50⟩ := by
 refine loop_tr (ι := Nat × List De) (by simp) (fun x => pathst c L f z x.2 (x.1 : Int)) (·.1) (fun x => x.1 ≤ node ∧ x.2 ++ updec L x.1 = updec L node) (node, []) ⟨Nat.le_refl _, rfl⟩ ?_
 rintro ⟨i, C⟩ ⟨h1, h2⟩
 dsimp only at h1 h2 ⊢
 by_cases h0 : i = 0
 ·subst h0
  right
  rw [updec_zero, List.append_nil] at h2
  subst h2
  exact Rnd.cut (n := 50) (show Rnd _ _ _ _ _ _ ⟨[(5, .cv (.one (.sl 40)))], [(40, some ⟨44, some (3, ((updec L node).map rowD).length), flatR ((updec L node).map rowD)⟩)], 52⟩ from rnd_run 1000 [pk (bF_gtr 3 ((0 : Nat) : Int) 0)] (by kernel_rfl)) rfl
 ·left
  obtain ⟨j, hj, hlt⟩ := hD.nat (Nat.pos_of_ne_zero h0) h1
  rw [updec_step hj hlt] at h2
  refine ⟨(j, C ++ [dcn (tat L i)]), ⟨by dsimp only; omega, by dsimp only; rw [List.append_assoc]; exact h2⟩, hlt, ?_⟩
  have hi : i < L.length := by omega
  have hlen : C.length ≤ node := by
   have e := congrArg List.length h2
   have := updec_len L node
   rw [List.length_append] at e
   omega
  have r : Rnd Try.prog I 28 (loopC Try.prog 15 0) (pathst c L f z C (i : Int)) .normal (pathst c L f z (C ++ [dcn (tat L i)]) (tat L i).par) := by
   unfold pathst
   rw [List.map_append, List.map_singleton]
   exact Rnd.grow (k := 40) (n := 50) (rows := C.map rowD) (row := rowD (dcn (tat L i))) (show Rnd _ _ _ _ _ _ ⟨[(5, .cv (.one (.sl 60))), (2, .cv (.one (.ptr 0 0))), (6, .cv (.one (.b (.lit (.int .i64 ((tat L i).par))))))], [(60, some ⟨44, some (3, (C.map rowD).length + 1), flatR (C.map rowD) ++ (rowD (dcn (tat L i)) : List It0).map It.b⟩), (0, some ⟨24, none, [.b (.it (slI 9 ((L).map (rowT c)))), .b (.lit (.bool f)), .b (.lit (.int .i64 z))]⟩)], 69⟩ from rnd_run 1000 [pk (bT_gtr 3 (i : Int) 0), pk (sl_ix 22 46 9 ((L).map (rowT c)) i (i : Int) ((rowT c) (tat L i)) (tat_row hi)), ⟨.ap (((C).map rowD).length) 1 24, ⟨by rw [List.length_map]; omega, by rw [List.length_map]; simp [maxLen]; omega⟩⟩, pk (sl_ix 22 46 9 ((L).map (rowT c)) i (i : Int) ((rowT c) (tat L i)) (tat_row hi))] (by kernel_rfl)) rfl rfl
  rw [hj] at r
  exact r
theorem path_sp (L : List Nd) (f : Bool) (z : Int) (node : Nat) (hD : Dn L node) (hn : node < L.length) (hl : L.length ≤ 1000000) : Sp Try.prog I 15 [trT c L f z, ci (node : Int)] (.cv (.one (.b (.it (deI (pathD L node)))))) := by
 have hlen := updec_len L node
 have lo := LoopTr.pre (nil_ownT (nx := 49) (t := 5) (k := 40) (E := [(2, .cv (.one (.ptr 0 0))), (6, li (node : Int))]) (B := [(0, some ⟨24, none, [.b (.it (trI c L)), .b (.lit (.bool f)), .b (.lit (.int .i64 z))]⟩)]) 44 3 rfl rfl) (path_loop (I := I) (c := c) L f z node hD hn hl)
 rw [List.length_map] at lo
 unfold pathD
 generalize updec L node = D at *
 exact sp_run (nt := 28) 1000 [pl (lo), pom [40] (reverse_spm (I := I) (D) (by omega)), pm (freeze_leads (I := I) (nt := 28) (t := 5) (k := 40) (E := []) (B := []) (nx := 200) (T := 44) (n := D.length) ((D.reverse).map rowD) rfl (by simp) rowD_w rfl)] (by kernel_rfl)
end
end Go.Proofs.Ytflajoflpkboiaa

/- Borrowing: a function that only reads, handed a slice of the caller's own. -/
namespace Go.Proofs.Ytflajoflpkboiaa
open Go Go.RowKit
set_option linter.unusedVariables false
set_option linter.unusedSimpArgs false

/-- the slice named 0 read as an item -/
def It.sub0 (i : Item) : It → It
 | .sl _ => .b (.it i)
 | x => x
def CT.sub0 (i : Item) : CT → CT
 | .one x => .one (x.sub0 i)
 | .ag l => .ag (l.map (It.sub0 i))
def It.ok0 : It → Bool
 | .sl k => Nat.beq k 0
 | .ptr _ _ => false
 | _ => true
def CT.ok0 : CT → Bool
 | .one x => x.ok0
 | .ag l => l.all It.ok0
section
variable {P : Program} {I : WInv} {N N1 : Nat → Prop} {w : World} {g : Gh} {i : Item}
theorem It.sub0_sem (hN : ∀ b, N b → N1 b) (hs : ∀ l, (It.sl 0).sem N w g l → i.T N1 w l) {x : It} {l : List Value} (hx : x.ok0 = true) (h : x.sem N w g l) : (x.sub0 i).sem N1 w G0 l := by
 cases x with
 | b x => exact It0.step h (WStep.refl _ _) hN
 | ptr k off => cases hx
 | fp x => obtain ⟨b, off, h1, h2⟩ := h; exact ⟨b, off, h1, h2.step (WStep.refl _ _) hN⟩
 | sl k =>
  have := Nat.eq_of_beq_eq_true hx
  subst this
  exact hs l h
theorem semL_sub0 (hN : ∀ b, N b → N1 b) (hs : ∀ l, (It.sl 0).sem N w g l → i.T N1 w l) : ∀ {xs : List It} {l : List Value}, xs.all It.ok0 = true → semL N w g xs l → semL N1 w G0 (xs.map (It.sub0 i)) l
 | [], _, _, h => h
 | x :: xs, _, hn, ⟨l1, l2, e, h1, h2⟩ => by
  simp only [List.all_cons, Bool.and_eq_true] at hn
  exact ⟨l1, l2, e, It.sub0_sem hN hs hn.1 h1, semL_sub0 hN hs hn.2 h2⟩
theorem CT.sub0_sem (hN : ∀ b, N b → N1 b) (hs : ∀ l, (It.sl 0).sem N w g l → i.T N1 w l) {c : CT} {v : Value} (hc : c.ok0 = true) (h : c.sem N w g v) : (c.sub0 i).sem N1 w G0 v := by
 cases c with
 | one x => exact It.sub0_sem hN hs hc h
 | ag l => obtain ⟨vs, e, h1⟩ := h; exact ⟨vs, e, semL_sub0 hN hs hc h1⟩
theorem all2_sub0 (hN : ∀ b, N b → N1 b) (hs : ∀ l, (It.sl 0).sem N w g l → i.T N1 w l) : ∀ {cs : List CT} {vs : List Value}, cs.all CT.ok0 = true → all2 (CT.sem N w g) cs vs → all2 (CT.sem N1 w G0) (cs.map (CT.sub0 i)) vs
 | [], _, _, h => h
 | c :: cs, _, hn, ⟨v, l, e, h1, h2⟩ => by
  simp only [List.all_cons, Bool.and_eq_true] at hn
  exact ⟨v, l, e, CT.sub0_sem hN hs hn.1 h1, all2_sub0 hN hs hn.2 h2⟩
theorem own_item {K : Nat → Prop} {k T sz n : Nat} {rows : List (List It0)} (hbox : BoxSem N w g K k ⟨T, some (sz, n), flatR rows⟩) (hn : n = rows.length) (hw : ∀ r ∈ rows, widthO r = sz) {l : List Value} (h : (It.sl k).sem N w g l) : (slI sz rows).T (fun b => N b ∨ blkOf g k = some b) w l := by
 obtain ⟨A, c, xs, g1, g2, g3, g4⟩ := hbox.own rfl
 have hN : ∀ b, N b → (N b ∨ blkOf g k = some b) := fun b hb => .inl hb
 have hkb : blkOf g k = A.map (·.block) := by unfold blkOf; rw [g1]; cases A <;> rfl
 obtain ⟨A', n', c', e1, e2⟩ := h
 rw [g1] at e1
 injection e1 with e1
 injection e1 with e1 e3 e4
 subst e1 e3 e4 hn
 rcases g2 with ⟨rfl, h0, rfl, rfl⟩ | ⟨b, cs, rfl, r2, r3, r4, r5, r6, r7⟩
 ·exact ⟨none, 0, e2, by omega, by simp [maxLen], fun hr => absurd (List.eq_nil_of_length_eq_zero h0) hr⟩
 ·refine ⟨_, c, e2, r3, r4, fun _ => ⟨b, 0, rfl, fun i r hi => ?_⟩⟩
  obtain ⟨k1, k2⟩ := rows_at hw (semL_semL0 g3)
  have k3 := k2 i r hi
  have hlen := semL0_len k3
  rw [hw r (List.mem_of_getElem? hi)] at hlen
  refine ⟨cs, T, (0, 0), _, .inr hkb, r2, ?_, semL0_step (WStep.refl _ _) hN k3⟩
  rw [Nat.zero_add, hlen, ← r6]
  have hi' : i < rows.length := (List.getElem?_eq_some_iff.1 hi).1
  have hm : i * sz + sz ≤ rows.length * sz := by
   have : (i + 1) * sz ≤ rows.length * sz := Nat.mul_le_mul_right _ hi'
   rw [Nat.add_mul, Nat.one_mul] at this
   exact this
  rw [List.drop_take, List.take_take, Nat.min_eq_left (by omega)]
/-- a function that reads a slice that stays also reads one of the caller's own, if its result does not speak of it -/
theorem borrow {f : FuncId} {T sz n : Nat} {rows : List (List It0)} {args : List CT} {res res' : TV} (h : Sp P I f (args.map (CT.sub0 (slI sz rows))) res) (hn : n = rows.length) (hw : ∀ r ∈ rows, widthO r = sz) (hok : args.all CT.ok0 = true)
  (hres : ∀ N N' w v, res.sem N w G0 v → res'.sem N' w G0 v) (hnp : res'.noPtr = true) : SpM P I f [(0, some ⟨T, some (sz, n), flatR rows⟩)] args [(0, some ⟨T, some (sz, n), flatR rows⟩)] res' := by
 intro N K w g vs hI hlow hK hbx hinj hg2 hargs
 have hbox := hbx 0 _ rfl
 have hc := h (fun b => N b ∨ blkOf g 0 = some b) w vs (I.step (WStep.refl _ _) (fun b hb => .inl hb) hI) (fun b hb => hb.elim (hlow b) fun hb => hbox.lt hb) (all2_sub0 (fun b hb => .inl hb) (fun l hl => own_item hbox hn hw hl) hok hargs)
 refine hc.mono ?_
 rintro en w' ⟨v, rfl, hv, hb⟩
 refine ⟨v, N, g, rfl, fun _ h => h, fun b hb => .inl hb, KBelow.of_below hb hK, fun k e he => ?_, hinj, fun _ _ _ h => h, TV.noPtr_sem hnp (hres _ _ _ _ hv)⟩
 exact (hbx k e he).keep (WStep.of_below hb) (fun _ h => h) (fun b hb => (hbx k e he).notN hb) (fun b hb' => hb.block b ((hbx k e he).lt hb')) (GExt.refl _)
theorem lit_free {u : Value} : ∀ (N N' : Nat → Prop) (w : World) (v : Value), (tlit u).sem N w G0 v → (tlit u).sem N' w G0 v := fun _ _ _ _ h => h
/-- a slice of which the length alone is told -/
def lnI (n : Nat) : Item where
 n := 1
 T := fun _ _ l => ∃ A c, l = [.slice A n c]
 step := fun _ _ h => h
 len := fun ⟨A, c, e⟩ => by rw [e]; rfl
 one := fun ⟨A, c, e⟩ v hv => by rw [e] at hv; simp at hv; subst hv; rfl
theorem sl_free {sz n : Nat} {rows : List (List It0)} (hn : rows.length = n) : ∀ (N N' : Nat → Prop) (w : World) (v : Value), (tit (slI sz rows)).sem N w G0 v → (tit (lnI n)).sem N' w G0 v := by
 rintro N N' w v ⟨A, c, e, _⟩
 subst hn
 exact ⟨A, c, e⟩
theorem ln_len (t e ty : TypeId) (n : Nat) (ht : P.underlying t = some (.slice e)) : OpOb P (.len #[t] ty) [tit (lnI n)] (li n) := by
 intro N w g vs hv
 obtain ⟨v, rfl, A, c, e1⟩ := all2T_one hv
 injection e1 with e1
 subst e1
 exact ⟨_, w, by simp [OpK.run, Builtin.len_, underlying_run ht, goInt], Below.refl _ _, (rfl : [_] = [_])⟩
end
/-! ### two decisions are equal -/
theorem eqDec (a b a' b' : Int) (c c' : Bool) (w : World) : (Op.equalIn 10000 44 (.agg #[.int .i64 a, .int .i64 b, .bool c]) (.agg #[.int .i64 a', .int .i64 b', .bool c'])).run Try.prog w = .ok (decide ((a, b, c) = (a', b', c'))) w := by
 have u3 := Try.underlying3
 have a3 := Try.isAgg3
 have z3 := Try.sizeOf3
 have u4 := Try.underlying4
 have a4 := Try.isAgg4
 have z4 := Try.sizeOf4
 have hS : Try.prog.underlying 44 = some (.struct (Try.prog.fieldsOf 44)) := by kernel_rfl
 have hp : Try.prog.stoodInHeld 44 = false := by kernel_rfl
 rw [show (10000 : Nat) = 9999 + 1 from rfl, run_equalIn_agg w 9999 44 _ _ hS hp]
 simp only [Program.fieldsOf, Try.underlying44]
 go_simp
 by_cases h1 : a = a' <;> by_cases h2 : b = b' <;> by_cases h3 : c = c' <;> simp [h1, h2, h3]
abbrev dcl (x : De) : List It := [.b (.lit (.int .i64 x.1)), .b (.lit (.int .i64 x.2.1)), .b (.lit (.bool x.2.2))]
theorem dcl_sem {N : Nat → Prop} {w : World} {g : Gh} {x : De} {v : Value} (h : (TV.cv (.ag (dcl x))).sem N w g v) : v = .agg #[.int .i64 x.1, .int .i64 x.2.1, .bool x.2.2] := by
 obtain ⟨vs, e, l1, r1, e1, h1, l2, r2, e2, h2, l3, r3, e3, h3, h4⟩ := h
 have h1 : l1 = [_] := h1
 have h2 : l2 = [_] := h2
 have h3 : l3 = [_] := h3
 have h4 : r3 = [] := h4
 subst h4 h3 h2 h1 e3 e2 e1
 rw [e]; rfl
theorem d_neq (x y : De) (r : Bool) (h : decide (x = y) = !r) : OpOb Try.prog (.bin .neq 44) [.cv (.ag (dcl x)), .cv (.ag (dcl y))] (lb r) := by
 intro N w g vs hv
 obtain ⟨u, v, rfl, h1, h2⟩ := all2T_two hv
 rw [dcl_sem h1, dcl_sem h2]
 refine ⟨.bool r, w, ?_, Below.refl _ _, (rfl : [_] = [_])⟩
 simp only [OpK.run, Sem.run_bind, run_eqGuard_agg (w := w) .neq 44 (.tmp 0) (.tmp 1) _ _ (show Try.prog.eqGuardType Try.prog.depth 44 = false by kernel_rfl), Result.andThen_ok, run_neq_struct, eqDec]
 rw [show decide ((x.1, x.2.1, x.2.2) = (y.1, y.2.1, y.2.2)) = !r from h, Bool.not_not]
theorem d_eql (x y : De) (r : Bool) (h : decide (x = y) = r) : OpOb Try.prog (.bin .eql 44) [.cv (.ag (dcl x)), .cv (.ag (dcl y))] (lb r) := by
 intro N w g vs hv
 obtain ⟨u, v, rfl, h1, h2⟩ := all2T_two hv
 rw [dcl_sem h1, dcl_sem h2]
 refine ⟨.bool r, w, ?_, Below.refl _ _, (rfl : [_] = [_])⟩
 simp only [OpK.run, Sem.run_bind, run_eqGuard_agg (w := w) .eql 44 (.tmp 0) (.tmp 1) _ _ (show Try.prog.eqGuardType Try.prog.depth 44 = false by kernel_rfl), Result.andThen_ok, run_eql_struct, eqDec]
 rw [show decide ((x.1, x.2.1, x.2.2) = (y.1, y.2.1, y.2.2)) = r from h]
end Go.Proofs.Ytflajoflpkboiaa

/- The shape of a tree, as the program finds it: lists of depths and numbers of children by pairs. -/
namespace Go.Proofs.Ytflajoflpkboiaa
open Go Go.RowKit
set_option linter.unusedVariables false
set_option linter.unusedSimpArgs false

section
variable {P : Program} {I : WInv} {nt : Nat}
/-- two slices of one's own keep their names; the names made meanwhile are forgotten -/
theorem Rnd.cut2 {c : Code} {s : St} {ex : Exit} {k k' nx n T T' : Nat} {sl sl' : Option (Nat × Nat)} {E : Env} {B : Bxs} {rows rows' : List (List It0)} (h : Rnd P I nt c s ex ⟨E, (k, some ⟨T, sl, flatR rows⟩) :: (k', some ⟨T', sl', flatR rows'⟩) :: B, nx⟩)
  (h1 : (ltE n E && ltB n B && Nat.blt k n && Nat.blt k' n && Nat.ble 2 n) = true) : Rnd P I nt c s ex ⟨E, (k, some ⟨T, sl, flatR rows⟩) :: (k', some ⟨T', sl', flatR rows'⟩) :: B, n⟩ := by
 simp only [Bool.and_eq_true] at h1
 obtain ⟨⟨⟨⟨a1, a2⟩, a3⟩, a4⟩, a5⟩ := h1
 have a6 := Nat.le_of_ble_eq_true a5
 refine h.leads (cut_leads a1 ?_)
 simp only [ltB, flatR, mapB_lt, a2, a3, a4, Bool.and_self]
end
/-! ### ints of one's own -/
abbrev rowZi (x : Int) : List It0 := [.lit (.int .i64 x)]
def iat (D : List Int) (i : Nat) : Int := D.getD i 0
theorem iat_some {D : List Int} {i : Nat} (h : i < D.length) : D[i]? = some (iat D i) := by unfold iat; rw [List.getD_eq_getElem?_getD, List.getElem?_eq_getElem h]; rfl
theorem iat_row {D : List Int} {i : Nat} {f : Int → List It0} (h : i < D.length) : (D.map f)[i]? = some (f (iat D i)) := map_some (iat_some h)
theorem rowZi_ok {D : List Int} : okR 1 (D.map rowZi) := by
 intro r hr
 obtain ⟨x, _, rfl⟩ := List.mem_map.1 hr
 exact ⟨rfl, fun y hy => by simp at hy; subst hy; exact Nat.one_pos⟩
theorem rowZi_w {D : List Int} : ∀ r ∈ D.map rowZi, widthO r = 1 := by intro r hr; obtain ⟨x, _, rfl⟩ := List.mem_map.1 hr; rfl
theorem upd_int {D : List Int} {i : Nat} (h : i < D.length) (x : Int) : updAt (flatR (D.map rowZi)) (i * 1) [.b (.lit (.int .i64 x))] = some (flatR ((D.set i x).map rowZi)) := by
 have := upd_row (sz := 1) (r := rowZi (iat D i)) (r' := rowZi x) (new := [.b (.lit (.int .i64 x))]) (iat_row (f := rowZi) h) rowZi_ok (fo := 0) rfl
 rw [← List.map_set] at this
 exact this
theorem sub_int {D : List Int} {i : Nat} (h : i < D.length) : subAt (flatR (D.map rowZi)) (i * 1) 1 = some [.b (.lit (.int .i64 (iat D i)))] := sub_row (sz := 1) (r := rowZi (iat D i)) (iat_row h) rowZi_ok (fo := 0) (n := 1) rfl
theorem zero_ints (n : Nat) : flatR ((List.replicate n (0 : Int)).map rowZi) = rep n [.b (.lit (.int .i64 0))] := by
 induction n with
 | zero => rfl
 | succ n ih =>
  rw [List.replicate_succ', List.map_append, List.map_singleton, ← flatR_snoc, ih]
  rfl
theorem iat_set {D : List Int} {i j : Nat} {x : Int} (h : i < D.length) : iat (D.set i x) j = if i = j then x else iat D j := by
 unfold iat
 rw [List.getD_eq_getElem?_getD, List.getD_eq_getElem?_getD, List.getElem?_set]
 by_cases hij : i = j
 ·subst hij; rw [if_pos rfl, if_pos rfl, if_pos h]; rfl
 ·rw [if_neg hij, if_neg hij]
theorem iat_zero (n j : Nat) : iat (List.replicate n 0) j = 0 := by
 unfold iat
 rw [List.getD_eq_getElem?_getD, List.getElem?_replicate]
 split <;> rfl
/-! ### pairs of nodes -/
/-- the parent of pair number m -/
def pp (L : List Nd) (m : Nat) : Nat := (tat L (2 * m + 1)).par.toNat
def dlt (L : List Nd) : Nat → List Int
 | 0 => List.replicate L.length 0
 | m + 1 => ((dlt L m).set (2 * m + 1) (iat (dlt L m) (pp L m) + 1)).set (2 * m + 2) (iat ((dlt L m).set (2 * m + 1) (iat (dlt L m) (pp L m) + 1)) (2 * m + 1))
def clt (L : List Nd) : Nat → List Int
 | 0 => List.replicate L.length 0
 | m + 1 => (clt L m).set (pp L m) (iat (clt L m) (pp L m) + 2)
theorem dlt_len (L : List Nd) : ∀ m, (dlt L m).length = L.length
 | 0 => by rw [dlt, List.length_replicate]
 | m + 1 => by rw [dlt, List.length_set, List.length_set, dlt_len L m]
theorem clt_len (L : List Nd) : ∀ m, (clt L m).length = L.length
 | 0 => by rw [clt, List.length_replicate]
 | m + 1 => by rw [clt, List.length_set, clt_len L m]
theorem iat_out {D : List Int} {j : Nat} (h : D.length ≤ j) : iat D j = 0 := by
 unfold iat
 rw [List.getD_eq_getElem?_getD, List.getElem?_eq_none h]; rfl
theorem set_le {D : List Int} {i : Nat} {x lo hi : Int} (h : ∀ j, lo ≤ iat D j ∧ iat D j ≤ hi) (hx : lo ≤ x ∧ x ≤ hi) : ∀ j, lo ≤ iat (D.set i x) j ∧ iat (D.set i x) j ≤ hi := by
 intro j
 by_cases hi : i < D.length
 ·rw [iat_set hi]
  split
  ·exact hx
  ·exact h j
 ·rw [List.set_eq_of_length_le (by omega)]; exact h j
theorem dlt_le (L : List Nd) : ∀ m j, 0 ≤ iat (dlt L m) j ∧ iat (dlt L m) j ≤ (m : Int)
 | 0, j => by rw [dlt, iat_zero]; omega
 | m + 1, j => by
  have h := dlt_le L m
  have h1 : ∀ j, 0 ≤ iat (dlt L m) j ∧ iat (dlt L m) j ≤ ((m + 1 : Nat) : Int) := fun j => ⟨(h j).1, by have := (h j).2; omega⟩
  have h2 := set_le (i := 2 * m + 1) (x := iat (dlt L m) (pp L m) + 1) h1 ⟨by have := (h (pp L m)).1; omega, by have := (h (pp L m)).2; omega⟩
  rw [dlt]
  exact set_le h2 (h2 _) j
theorem clt_le (L : List Nd) : ∀ m j, 0 ≤ iat (clt L m) j ∧ iat (clt L m) j ≤ 2 * (m : Int)
 | 0, j => by rw [clt, iat_zero]; omega
 | m + 1, j => by
  have h := clt_le L m
  have h1 : ∀ j, 0 ≤ iat (clt L m) j ∧ iat (clt L m) j ≤ 2 * ((m + 1 : Nat) : Int) := fun j => ⟨(h j).1, by have := (h j).2; omega⟩
  rw [clt]
  exact set_le h1 ⟨by have := (h (pp L m)).1; omega, by have := (h (pp L m)).2; omega⟩ j
/-- the parents and decisions of pair number m are as they must be -/
def prB (L : List Nd) (m : Nat) : Bool :=
 decide ((tat L (2 * m + 1)).par = (tat L (2 * m + 2)).par) && decide (0 ≤ (tat L (2 * m + 1)).par) && decide ((tat L (2 * m + 1)).par < 2 * (m : Int) + 1) &&
 decide (dcn (tat L (2 * m + 1)) = ((tat L (2 * m + 1)).fst, (tat L (2 * m + 1)).nxt, true)) && decide (dcn (tat L (2 * m + 2)) = ((tat L (2 * m + 1)).fst, (tat L (2 * m + 1)).nxt, false)) &&
 decide (0 ≤ (tat L (2 * m + 1)).fst) && decide (0 ≤ (tat L (2 * m + 1)).nxt) && decide (¬ (tat L (2 * m + 1)).fst = (tat L (2 * m + 1)).nxt)
/-- what the program asks of pair number m beyond that -/
def spB (L : List Nd) (m : Nat) : Bool :=
 decide (iat (dlt L (m + 1)) (2 * m + 1) ≤ 32) && decide (iat (clt L (m + 1)) (pp L m) ≤ 2) && !decB L (pp L m) (tat L (2 * m + 1)).fst (tat L (2 * m + 1)).nxt &&
 decide ((tat L (pp L m)).q ≤ (tat L (2 * m + 1)).q) && decide ((tat L (pp L m)).q ≤ (tat L (2 * m + 2)).q)
def rtB (L : List Nd) : Bool := decide ((tat L 0).par = -1) && decide (dcn (tat L 0) = (0, 0, false)) && decide (L.length % 2 = 1)
def chB (L : List Nd) (i : Nat) : Bool := decide ((tat L i).st = 1) == decide (0 < iat (clt L (L.length / 2)) i)
/-- the shape of a tree -/
def shB (L : List Nd) : Bool := rtB L && ((List.range (L.length / 2)).all fun m => prB L m && spB L m) && (List.range L.length).all (chB L)
theorem dn_prs {L : List Nd} {m : Nat} (h : ∀ x, x < m → prB L x = true) : Dn L (2 * m) := by
 intro i h0 hi
 obtain ⟨x, hx⟩ : ∃ x, i = 2 * x + 1 ∨ i = 2 * x + 2 := ⟨(i - 1) / 2, by omega⟩
 have hp := h x (by omega)
 unfold prB at hp
 simp only [Bool.and_eq_true, decide_eq_true_eq] at hp
 obtain ⟨⟨⟨⟨⟨⟨⟨p1, p2⟩, p3⟩, _⟩, _⟩, _⟩, _⟩, _⟩ := hp
 rcases hx with rfl | rfl
 ·exact ⟨p2, by omega⟩
 ·exact ⟨by omega, by omega⟩
end Go.Proofs.Ytflajoflpkboiaa

/- The walk of shaped. -/
namespace Go.Proofs.Ytflajoflpkboiaa
open Go Go.RowKit
set_option linter.unusedVariables false
set_option linter.unusedSimpArgs false

theorem cmpq_ltA {a b : Rat} (h : ¬ b ≤ a) : decide (cmpq a b < 0) = true := by
 unfold cmpq
 rw [if_pos (by grind)]; rfl
theorem cmpq_nltA {a b : Rat} (h : b ≤ a) : decide (cmpq a b < 0) = false := by
 unfold cmpq
 rw [if_neg (by grind)]
 split <;> rfl

def shpst (c : Bool) (L : List Nd) (f : Bool) (z : Int) (D C : List Int) (k : Int) : Go.Proofs.Ytflajoflpkboiaa.St := ⟨[(1, .cv (.one (.ptr 0 0))), (4, .cv (.one (.sl 27))), (5, .cv (.one (.sl 32))), (6, .cv (.one (.b (.lit (.int .i64 k)))))], [(27, some ⟨3, some (1, L.length), flatR ((D).map rowZi)⟩), (32, some ⟨3, some (1, L.length), flatR ((C).map rowZi)⟩), (0, some ⟨24, none, [.b (.it (slI 9 ((L).map (rowT c)))), .b (.lit (.bool f)), .b (.lit (.int .i64 z))]⟩)], 50⟩
section
variable {I : WInv} {c : Bool}
theorem shaped_round (L : List Nd) (f : Bool) (z : Int) (m : Nat) (hm : 2 * m + 2 < L.length) (hl : L.length ≤ 2000) (hD : Dn L (2 * m)) :
  (prB L m = true → spB L m = true → Rnd Try.prog I 195 (loopC Try.prog 18 0) (shpst c L f z (dlt L m) (clt L m) (2 * (m : Int) + 1)) .normal (shpst c L f z (dlt L (m + 1)) (clt L (m + 1)) (2 * ((m + 1 : Nat) : Int) + 1))) ∧
  ((prB L m && spB L m) = false → Rnd Try.prog I 195 (loopC Try.prog 18 0) (shpst c L f z (dlt L m) (clt L m) (2 * (m : Int) + 1)) .ret ⟨[(2, lb false)], [], 50⟩) := by
 have h1 : 2 * m + 1 < L.length := by omega
 have h2 : 2 * m + 2 < L.length := by omega
 have d1 : 2 * m + 1 < (dlt L m).length := by rw [dlt_len]; omega
 have d2 : 2 * m + 2 < (dlt L m).length := by rw [dlt_len]; omega
 by_cases p1 : (tat L (2 * m + 1)).par = (tat L (2 * m + 2)).par
 ·by_cases p2 : (tat L (2 * m + 1)).par < 0
  ·refine ⟨fun h => absurd h (by unfold prB; simp; omega), fun _ => ?_⟩
   exact rnd_run 1000 [pk (sl_ln 22 46 3 9 ((L).map (rowT c)) ((L).length : Int)), pk (bT_lss 3 (2 * (m : Int) + 1) ((L).length : Int)), pk (sl_ix 22 46 9 ((L).map (rowT c)) (2 * m + 1) (2 * (m : Int) + 1) ((rowT c) (tat L (2 * m + 1))) (tat_row h1)), pk (b_add 3 (2 * (m : Int) + 1) 1 ⟨by omega, by omega⟩), pk (sl_ix 22 46 9 ((L).map (rowT c)) (2 * m + 2) ((2 * (m : Int) + 1) + 1) ((rowT c) (tat L (2 * m + 2))) (tat_row h2)), pk (bF_neq 3 ((tat L (2 * m + 1)).par) ((tat L (2 * m + 2)).par)), pk (bT_lss 3 ((tat L (2 * m + 1)).par) 0)] (by kernel_rfl)
  ·by_cases p3 : 2 * (m : Int) + 1 ≤ (tat L (2 * m + 1)).par
   ·refine ⟨fun h => absurd h (by unfold prB; simp; omega), fun _ => ?_⟩
    exact rnd_run 1000 [pk (sl_ln 22 46 3 9 ((L).map (rowT c)) ((L).length : Int)), pk (bT_lss 3 (2 * (m : Int) + 1) ((L).length : Int)), pk (sl_ix 22 46 9 ((L).map (rowT c)) (2 * m + 1) (2 * (m : Int) + 1) ((rowT c) (tat L (2 * m + 1))) (tat_row h1)), pk (b_add 3 (2 * (m : Int) + 1) 1 ⟨by omega, by omega⟩), pk (sl_ix 22 46 9 ((L).map (rowT c)) (2 * m + 2) ((2 * (m : Int) + 1) + 1) ((rowT c) (tat L (2 * m + 2))) (tat_row h2)), pk (bF_neq 3 ((tat L (2 * m + 1)).par) ((tat L (2 * m + 2)).par)), pk (bF_lss 3 ((tat L (2 * m + 1)).par) 0), pk (bT_geq 3 ((tat L (2 * m + 1)).par) (2 * (m : Int) + 1))] (by kernel_rfl)
   ·have hpp : (tat L (2 * m + 1)).par = ((pp L m : Nat) : Int) := by unfold pp; omega
    have hp2 : pp L m ≤ 2 * m := by omega
    have hp : pp L m < L.length := by omega
    have dp : pp L m < (dlt L m).length := by rw [dlt_len]; omega
    have cp : pp L m < (clt L m).length := by rw [clt_len]; omega
    have bd := dlt_le L m (pp L m)
    have bc := clt_le L m (pp L m)
    have hdec := decided_sp (I := I) (c := c) L f z (pp L m) (tat L (2 * m + 1)).fst (tat L (2 * m + 1)).nxt (fun i h0 hi => hD i h0 (by omega)) hp
    rw [← hpp] at hdec
    by_cases p4 : dcn (tat L (2 * m + 1)) = ((tat L (2 * m + 1)).fst, (tat L (2 * m + 1)).nxt, true)
    ·by_cases p5 : dcn (tat L (2 * m + 2)) = ((tat L (2 * m + 1)).fst, (tat L (2 * m + 1)).nxt, false)
     ·by_cases p6 : (tat L (2 * m + 1)).fst < 0
      ·refine ⟨fun h => absurd h (by unfold prB; simp; omega), fun _ => ?_⟩
       exact rnd_run 1000 [pk (sl_ln 22 46 3 9 ((L).map (rowT c)) ((L).length : Int)), pk (bT_lss 3 (2 * (m : Int) + 1) ((L).length : Int)), pk (sl_ix 22 46 9 ((L).map (rowT c)) (2 * m + 1) (2 * (m : Int) + 1) ((rowT c) (tat L (2 * m + 1))) (tat_row h1)), pk (b_add 3 (2 * (m : Int) + 1) 1 ⟨by omega, by omega⟩), pk (sl_ix 22 46 9 ((L).map (rowT c)) (2 * m + 2) ((2 * (m : Int) + 1) + 1) ((rowT c) (tat L (2 * m + 2))) (tat_row h2)), pk (bF_neq 3 ((tat L (2 * m + 1)).par) ((tat L (2 * m + 2)).par)), pk (bF_lss 3 ((tat L (2 * m + 1)).par) 0), pk (bF_geq 3 ((tat L (2 * m + 1)).par) (2 * (m : Int) + 1)), pk (d_neq (dcn (tat L (2 * m + 1))) ((tat L (2 * m + 1)).fst, (tat L (2 * m + 1)).nxt, true) false (decide_eq_true p4)), pk (d_neq (dcn (tat L (2 * m + 2))) ((tat L (2 * m + 1)).fst, (tat L (2 * m + 1)).nxt, false) false (decide_eq_true p5)), pk (bT_lss 3 ((tat L (2 * m + 1)).fst) 0)] (by kernel_rfl)
      ·by_cases p7 : (tat L (2 * m + 1)).nxt < 0
       ·refine ⟨fun h => absurd h (by unfold prB; simp; omega), fun _ => ?_⟩
        exact rnd_run 1000 [pk (sl_ln 22 46 3 9 ((L).map (rowT c)) ((L).length : Int)), pk (bT_lss 3 (2 * (m : Int) + 1) ((L).length : Int)), pk (sl_ix 22 46 9 ((L).map (rowT c)) (2 * m + 1) (2 * (m : Int) + 1) ((rowT c) (tat L (2 * m + 1))) (tat_row h1)), pk (b_add 3 (2 * (m : Int) + 1) 1 ⟨by omega, by omega⟩), pk (sl_ix 22 46 9 ((L).map (rowT c)) (2 * m + 2) ((2 * (m : Int) + 1) + 1) ((rowT c) (tat L (2 * m + 2))) (tat_row h2)), pk (bF_neq 3 ((tat L (2 * m + 1)).par) ((tat L (2 * m + 2)).par)), pk (bF_lss 3 ((tat L (2 * m + 1)).par) 0), pk (bF_geq 3 ((tat L (2 * m + 1)).par) (2 * (m : Int) + 1)), pk (d_neq (dcn (tat L (2 * m + 1))) ((tat L (2 * m + 1)).fst, (tat L (2 * m + 1)).nxt, true) false (decide_eq_true p4)), pk (d_neq (dcn (tat L (2 * m + 2))) ((tat L (2 * m + 1)).fst, (tat L (2 * m + 1)).nxt, false) false (decide_eq_true p5)), pk (bF_lss 3 ((tat L (2 * m + 1)).fst) 0), pk (bT_lss 3 ((tat L (2 * m + 1)).nxt) 0)] (by kernel_rfl)
       ·by_cases p8 : (tat L (2 * m + 1)).fst = (tat L (2 * m + 1)).nxt
        ·refine ⟨fun h => absurd h (by unfold prB; simp; omega), fun _ => ?_⟩
         exact rnd_run 1000 [pk (sl_ln 22 46 3 9 ((L).map (rowT c)) ((L).length : Int)), pk (bT_lss 3 (2 * (m : Int) + 1) ((L).length : Int)), pk (sl_ix 22 46 9 ((L).map (rowT c)) (2 * m + 1) (2 * (m : Int) + 1) ((rowT c) (tat L (2 * m + 1))) (tat_row h1)), pk (b_add 3 (2 * (m : Int) + 1) 1 ⟨by omega, by omega⟩), pk (sl_ix 22 46 9 ((L).map (rowT c)) (2 * m + 2) ((2 * (m : Int) + 1) + 1) ((rowT c) (tat L (2 * m + 2))) (tat_row h2)), pk (bF_neq 3 ((tat L (2 * m + 1)).par) ((tat L (2 * m + 2)).par)), pk (bF_lss 3 ((tat L (2 * m + 1)).par) 0), pk (bF_geq 3 ((tat L (2 * m + 1)).par) (2 * (m : Int) + 1)), pk (d_neq (dcn (tat L (2 * m + 1))) ((tat L (2 * m + 1)).fst, (tat L (2 * m + 1)).nxt, true) false (decide_eq_true p4)), pk (d_neq (dcn (tat L (2 * m + 2))) ((tat L (2 * m + 1)).fst, (tat L (2 * m + 1)).nxt, false) false (decide_eq_true p5)), pk (bF_lss 3 ((tat L (2 * m + 1)).fst) 0), pk (bF_lss 3 ((tat L (2 * m + 1)).nxt) 0), pk (bT_eql 3 ((tat L (2 * m + 1)).fst) ((tat L (2 * m + 1)).nxt))] (by kernel_rfl)
        ·have hpr : prB L m = true := by unfold prB; simp [← p1, p4, p5]; omega
         by_cases p9 : iat (dlt L (m + 1)) (2 * m + 1) ≤ 32
         ·by_cases p10 : iat (clt L (m + 1)) (pp L m) ≤ 2
          ·cases p11 : decB L (pp L m) (tat L (2 * m + 1)).fst (tat L (2 * m + 1)).nxt with
           | true =>
            rw [p11] at hdec
            refine ⟨fun _ h => absurd h (by unfold spB; simp [p11]), fun _ => ?_⟩
            exact rnd_run 1000 [pk (sl_ln 22 46 3 9 ((L).map (rowT c)) ((L).length : Int)), pk (bT_lss 3 (2 * (m : Int) + 1) ((L).length : Int)), pk (sl_ix 22 46 9 ((L).map (rowT c)) (2 * m + 1) (2 * (m : Int) + 1) ((rowT c) (tat L (2 * m + 1))) (tat_row h1)), pk (b_add 3 (2 * (m : Int) + 1) 1 ⟨by omega, by omega⟩), pk (sl_ix 22 46 9 ((L).map (rowT c)) (2 * m + 2) ((2 * (m : Int) + 1) + 1) ((rowT c) (tat L (2 * m + 2))) (tat_row h2)), pk (bF_neq 3 ((tat L (2 * m + 1)).par) ((tat L (2 * m + 2)).par)), pk (bF_lss 3 ((tat L (2 * m + 1)).par) 0), pk (bF_geq 3 ((tat L (2 * m + 1)).par) (2 * (m : Int) + 1)), pk (d_neq (dcn (tat L (2 * m + 1))) ((tat L (2 * m + 1)).fst, (tat L (2 * m + 1)).nxt, true) false (decide_eq_true p4)), pk (d_neq (dcn (tat L (2 * m + 2))) ((tat L (2 * m + 1)).fst, (tat L (2 * m + 1)).nxt, false) false (decide_eq_true p5)), pk (bF_lss 3 ((tat L (2 * m + 1)).fst) 0), pk (bF_lss 3 ((tat L (2 * m + 1)).nxt) 0), pk (bF_eql 3 ((tat L (2 * m + 1)).fst) ((tat L (2 * m + 1)).nxt)), ⟨.ix ((tat L (2 * m + 1)).par) (pp L m) L.length, ⟨by omega, by omega⟩⟩, ⟨.part (flatR ((dlt L m).map rowZi)) ((pp L m) * 1) 1 [.b (.lit (.int .i64 (iat (dlt L m) (pp L m))))], (sub_int (D := dlt L m) dp)⟩, pk (b_add 3 (iat (dlt L m) (pp L m)) 1 ⟨by omega, by omega⟩), ⟨.ix (2 * (m : Int) + 1) (2 * m + 1) L.length, ⟨by omega, by omega⟩⟩, ⟨.upd (flatR ((dlt L m).map rowZi)) ((2 * m + 1) * 1) [.b (.lit (.int .i64 ((iat (dlt L m) (pp L m)) + 1)))] (flatR (((dlt L m).set (2 * m + 1) ((iat (dlt L m) (pp L m)) + 1)).map rowZi)), (upd_int (D := dlt L m) d1 ((iat (dlt L m) (pp L m)) + 1))⟩, pk (b_add 3 (2 * (m : Int) + 1) 1 ⟨by omega, by omega⟩), ⟨.ix (2 * (m : Int) + 1) (2 * m + 1) L.length, ⟨by omega, by omega⟩⟩, ⟨.part (flatR (((dlt L m).set (2 * m + 1) ((iat (dlt L m) (pp L m)) + 1)).map rowZi)) ((2 * m + 1) * 1) 1 [.b (.lit (.int .i64 (iat ((dlt L m).set (2 * m + 1) ((iat (dlt L m) (pp L m)) + 1)) (2 * m + 1))))], (sub_int (D := (dlt L m).set (2 * m + 1) ((iat (dlt L m) (pp L m)) + 1)) (by rw [List.length_set]; exact d1))⟩, ⟨.ix ((2 * (m : Int) + 1) + 1) (2 * m + 2) L.length, ⟨by omega, by omega⟩⟩, ⟨.upd (flatR (((dlt L m).set (2 * m + 1) ((iat (dlt L m) (pp L m)) + 1)).map rowZi)) ((2 * m + 2) * 1) [.b (.lit (.int .i64 (iat ((dlt L m).set (2 * m + 1) ((iat (dlt L m) (pp L m)) + 1)) (2 * m + 1))))] (flatR ((((dlt L m).set (2 * m + 1) ((iat (dlt L m) (pp L m)) + 1)).set (2 * m + 2) (iat ((dlt L m).set (2 * m + 1) ((iat (dlt L m) (pp L m)) + 1)) (2 * m + 1))).map rowZi)), (upd_int (D := (dlt L m).set (2 * m + 1) ((iat (dlt L m) (pp L m)) + 1)) (by rw [List.length_set]; exact d2) (iat ((dlt L m).set (2 * m + 1) ((iat (dlt L m) (pp L m)) + 1)) (2 * m + 1)))⟩, ⟨.ix ((tat L (2 * m + 1)).par) (pp L m) L.length, ⟨by omega, by omega⟩⟩, ⟨.part (flatR ((clt L m).map rowZi)) ((pp L m) * 1) 1 [.b (.lit (.int .i64 (iat (clt L m) (pp L m))))], (sub_int (D := clt L m) cp)⟩, pk (b_add 3 (iat (clt L m) (pp L m)) 2 ⟨by omega, by omega⟩), ⟨.ix ((tat L (2 * m + 1)).par) (pp L m) L.length, ⟨by omega, by omega⟩⟩, ⟨.upd (flatR ((clt L m).map rowZi)) ((pp L m) * 1) [.b (.lit (.int .i64 ((iat (clt L m) (pp L m)) + 2)))] (flatR (((clt L m).set (pp L m) ((iat (clt L m) (pp L m)) + 2)).map rowZi)), (upd_int (D := clt L m) cp ((iat (clt L m) (pp L m)) + 2))⟩, ⟨.ix (2 * (m : Int) + 1) (2 * m + 1) L.length, ⟨by omega, by omega⟩⟩, ⟨.part (flatR ((((dlt L m).set (2 * m + 1) ((iat (dlt L m) (pp L m)) + 1)).set (2 * m + 2) (iat ((dlt L m).set (2 * m + 1) ((iat (dlt L m) (pp L m)) + 1)) (2 * m + 1))).map rowZi)) ((2 * m + 1) * 1) 1 [.b (.lit (.int .i64 (iat (((dlt L m).set (2 * m + 1) ((iat (dlt L m) (pp L m)) + 1)).set (2 * m + 2) (iat ((dlt L m).set (2 * m + 1) ((iat (dlt L m) (pp L m)) + 1)) (2 * m + 1))) (2 * m + 1))))], (sub_int (D := ((dlt L m).set (2 * m + 1) ((iat (dlt L m) (pp L m)) + 1)).set (2 * m + 2) (iat ((dlt L m).set (2 * m + 1) ((iat (dlt L m) (pp L m)) + 1)) (2 * m + 1))) (by rw [List.length_set]; exact (by rw [List.length_set]; exact d1)))⟩, pk (b_gtr 3 (iat (((dlt L m).set (2 * m + 1) ((iat (dlt L m) (pp L m)) + 1)).set (2 * m + 2) (iat ((dlt L m).set (2 * m + 1) ((iat (dlt L m) (pp L m)) + 1)) (2 * m + 1))) (2 * m + 1)) 32 false (decide_eq_false (Int.not_lt.2 p9))), ⟨.ix ((tat L (2 * m + 1)).par) (pp L m) L.length, ⟨by omega, by omega⟩⟩, ⟨.part (flatR (((clt L m).set (pp L m) ((iat (clt L m) (pp L m)) + 2)).map rowZi)) ((pp L m) * 1) 1 [.b (.lit (.int .i64 (iat ((clt L m).set (pp L m) ((iat (clt L m) (pp L m)) + 2)) (pp L m))))], (sub_int (D := (clt L m).set (pp L m) ((iat (clt L m) (pp L m)) + 2)) (by rw [List.length_set]; exact cp))⟩, pk (b_gtr 3 (iat ((clt L m).set (pp L m) ((iat (clt L m) (pp L m)) + 2)) (pp L m)) 2 false (decide_eq_false (Int.not_lt.2 p10))), po (hdec)] (by kernel_rfl)
           | false =>
            rw [p11] at hdec
            by_cases p12 : (tat L (pp L m)).q ≤ (tat L (2 * m + 1)).q
            ·by_cases p13 : (tat L (pp L m)).q ≤ (tat L (2 * m + 2)).q
             ·refine ⟨fun _ _ => ?_, fun h => absurd h (by rw [hpr]; unfold spB; simp [p9, p10, p11, p12, p13])⟩
              have r : Rnd Try.prog I 195 (loopC Try.prog 18 0) (shpst c L f z (dlt L m) (clt L m) (2 * (m : Int) + 1)) .normal (shpst c L f z (dlt L (m + 1)) (clt L (m + 1)) (2 * (m : Int) + 1 + 2)) := Rnd.cut2 (n := 50) (show Rnd _ _ _ _ _ _ ⟨[(1, .cv (.one (.ptr 0 0))), (4, .cv (.one (.sl 27))), (5, .cv (.one (.sl 32))), (6, .cv (.one (.b (.lit (.int .i64 ((2 * (m : Int) + 1) + 2))))))], [(27, some ⟨3, some (1, L.length), flatR ((((dlt L m).set (2 * m + 1) ((iat (dlt L m) (pp L m)) + 1)).set (2 * m + 2) (iat ((dlt L m).set (2 * m + 1) ((iat (dlt L m) (pp L m)) + 1)) (2 * m + 1))).map rowZi)⟩), (32, some ⟨3, some (1, L.length), flatR (((clt L m).set (pp L m) ((iat (clt L m) (pp L m)) + 2)).map rowZi)⟩), (0, some ⟨24, none, [.b (.it (slI 9 ((L).map (rowT c)))), .b (.lit (.bool f)), .b (.lit (.int .i64 z))]⟩)], 198⟩ from rnd_run 1000 [pk (sl_ln 22 46 3 9 ((L).map (rowT c)) ((L).length : Int)), pk (bT_lss 3 (2 * (m : Int) + 1) ((L).length : Int)), pk (sl_ix 22 46 9 ((L).map (rowT c)) (2 * m + 1) (2 * (m : Int) + 1) ((rowT c) (tat L (2 * m + 1))) (tat_row h1)), pk (b_add 3 (2 * (m : Int) + 1) 1 ⟨by omega, by omega⟩), pk (sl_ix 22 46 9 ((L).map (rowT c)) (2 * m + 2) ((2 * (m : Int) + 1) + 1) ((rowT c) (tat L (2 * m + 2))) (tat_row h2)), pk (bF_neq 3 ((tat L (2 * m + 1)).par) ((tat L (2 * m + 2)).par)), pk (bF_lss 3 ((tat L (2 * m + 1)).par) 0), pk (bF_geq 3 ((tat L (2 * m + 1)).par) (2 * (m : Int) + 1)), pk (d_neq (dcn (tat L (2 * m + 1))) ((tat L (2 * m + 1)).fst, (tat L (2 * m + 1)).nxt, true) false (decide_eq_true p4)), pk (d_neq (dcn (tat L (2 * m + 2))) ((tat L (2 * m + 1)).fst, (tat L (2 * m + 1)).nxt, false) false (decide_eq_true p5)), pk (bF_lss 3 ((tat L (2 * m + 1)).fst) 0), pk (bF_lss 3 ((tat L (2 * m + 1)).nxt) 0), pk (bF_eql 3 ((tat L (2 * m + 1)).fst) ((tat L (2 * m + 1)).nxt)), ⟨.ix ((tat L (2 * m + 1)).par) (pp L m) L.length, ⟨by omega, by omega⟩⟩, ⟨.part (flatR ((dlt L m).map rowZi)) ((pp L m) * 1) 1 [.b (.lit (.int .i64 (iat (dlt L m) (pp L m))))], (sub_int (D := dlt L m) dp)⟩, pk (b_add 3 (iat (dlt L m) (pp L m)) 1 ⟨by omega, by omega⟩), ⟨.ix (2 * (m : Int) + 1) (2 * m + 1) L.length, ⟨by omega, by omega⟩⟩, ⟨.upd (flatR ((dlt L m).map rowZi)) ((2 * m + 1) * 1) [.b (.lit (.int .i64 ((iat (dlt L m) (pp L m)) + 1)))] (flatR (((dlt L m).set (2 * m + 1) ((iat (dlt L m) (pp L m)) + 1)).map rowZi)), (upd_int (D := dlt L m) d1 ((iat (dlt L m) (pp L m)) + 1))⟩, pk (b_add 3 (2 * (m : Int) + 1) 1 ⟨by omega, by omega⟩), ⟨.ix (2 * (m : Int) + 1) (2 * m + 1) L.length, ⟨by omega, by omega⟩⟩, ⟨.part (flatR (((dlt L m).set (2 * m + 1) ((iat (dlt L m) (pp L m)) + 1)).map rowZi)) ((2 * m + 1) * 1) 1 [.b (.lit (.int .i64 (iat ((dlt L m).set (2 * m + 1) ((iat (dlt L m) (pp L m)) + 1)) (2 * m + 1))))], (sub_int (D := (dlt L m).set (2 * m + 1) ((iat (dlt L m) (pp L m)) + 1)) (by rw [List.length_set]; exact d1))⟩, ⟨.ix ((2 * (m : Int) + 1) + 1) (2 * m + 2) L.length, ⟨by omega, by omega⟩⟩, ⟨.upd (flatR (((dlt L m).set (2 * m + 1) ((iat (dlt L m) (pp L m)) + 1)).map rowZi)) ((2 * m + 2) * 1) [.b (.lit (.int .i64 (iat ((dlt L m).set (2 * m + 1) ((iat (dlt L m) (pp L m)) + 1)) (2 * m + 1))))] (flatR ((((dlt L m).set (2 * m + 1) ((iat (dlt L m) (pp L m)) + 1)).set (2 * m + 2) (iat ((dlt L m).set (2 * m + 1) ((iat (dlt L m) (pp L m)) + 1)) (2 * m + 1))).map rowZi)), (upd_int (D := (dlt L m).set (2 * m + 1) ((iat (dlt L m) (pp L m)) + 1)) (by rw [List.length_set]; exact d2) (iat ((dlt L m).set (2 * m + 1) ((iat (dlt L m) (pp L m)) + 1)) (2 * m + 1)))⟩, ⟨.ix ((tat L (2 * m + 1)).par) (pp L m) L.length, ⟨by omega, by omega⟩⟩, ⟨.part (flatR ((clt L m).map rowZi)) ((pp L m) * 1) 1 [.b (.lit (.int .i64 (iat (clt L m) (pp L m))))], (sub_int (D := clt L m) cp)⟩, pk (b_add 3 (iat (clt L m) (pp L m)) 2 ⟨by omega, by omega⟩), ⟨.ix ((tat L (2 * m + 1)).par) (pp L m) L.length, ⟨by omega, by omega⟩⟩, ⟨.upd (flatR ((clt L m).map rowZi)) ((pp L m) * 1) [.b (.lit (.int .i64 ((iat (clt L m) (pp L m)) + 2)))] (flatR (((clt L m).set (pp L m) ((iat (clt L m) (pp L m)) + 2)).map rowZi)), (upd_int (D := clt L m) cp ((iat (clt L m) (pp L m)) + 2))⟩, ⟨.ix (2 * (m : Int) + 1) (2 * m + 1) L.length, ⟨by omega, by omega⟩⟩, ⟨.part (flatR ((((dlt L m).set (2 * m + 1) ((iat (dlt L m) (pp L m)) + 1)).set (2 * m + 2) (iat ((dlt L m).set (2 * m + 1) ((iat (dlt L m) (pp L m)) + 1)) (2 * m + 1))).map rowZi)) ((2 * m + 1) * 1) 1 [.b (.lit (.int .i64 (iat (((dlt L m).set (2 * m + 1) ((iat (dlt L m) (pp L m)) + 1)).set (2 * m + 2) (iat ((dlt L m).set (2 * m + 1) ((iat (dlt L m) (pp L m)) + 1)) (2 * m + 1))) (2 * m + 1))))], (sub_int (D := ((dlt L m).set (2 * m + 1) ((iat (dlt L m) (pp L m)) + 1)).set (2 * m + 2) (iat ((dlt L m).set (2 * m + 1) ((iat (dlt L m) (pp L m)) + 1)) (2 * m + 1))) (by rw [List.length_set]; exact (by rw [List.length_set]; exact d1)))⟩, pk (b_gtr 3 (iat (((dlt L m).set (2 * m + 1) ((iat (dlt L m) (pp L m)) + 1)).set (2 * m + 2) (iat ((dlt L m).set (2 * m + 1) ((iat (dlt L m) (pp L m)) + 1)) (2 * m + 1))) (2 * m + 1)) 32 false (decide_eq_false (Int.not_lt.2 p9))), ⟨.ix ((tat L (2 * m + 1)).par) (pp L m) L.length, ⟨by omega, by omega⟩⟩, ⟨.part (flatR (((clt L m).set (pp L m) ((iat (clt L m) (pp L m)) + 2)).map rowZi)) ((pp L m) * 1) 1 [.b (.lit (.int .i64 (iat ((clt L m).set (pp L m) ((iat (clt L m) (pp L m)) + 2)) (pp L m))))], (sub_int (D := (clt L m).set (pp L m) ((iat (clt L m) (pp L m)) + 2)) (by rw [List.length_set]; exact cp))⟩, pk (b_gtr 3 (iat ((clt L m).set (pp L m) ((iat (clt L m) (pp L m)) + 2)) (pp L m)) 2 false (decide_eq_false (Int.not_lt.2 p10))), po (hdec), pk (sl_ix 22 46 9 ((L).map (rowT c)) (pp L m) ((tat L (2 * m + 1)).par) ((rowT c) (tat L (pp L m))) (tat_row hp)), po (cmpF (I := I) (c := c) (c' := c) (k := 12) (j := 12) (p := (tat L (2 * m + 1)).q) (q := (tat L (pp L m)).q) (r := cmpq ((tat L (2 * m + 1)).q) ((tat L (pp L m)).q)) rfl (by omega)), pk (b_lss 3 (cmpq ((tat L (2 * m + 1)).q) ((tat L (pp L m)).q)) 0 false (cmpq_nltA p12)), po (cmpF (I := I) (c := c) (c' := c) (k := 12) (j := 12) (p := (tat L (2 * m + 2)).q) (q := (tat L (pp L m)).q) (r := cmpq ((tat L (2 * m + 2)).q) ((tat L (pp L m)).q)) rfl (by omega)), pk (b_lss 3 (cmpq ((tat L (2 * m + 2)).q) ((tat L (pp L m)).q)) 0 false (cmpq_nltA p13)), pk (b_add 3 (2 * (m : Int) + 1) 2 ⟨by omega, by omega⟩)] (by kernel_rfl)) rfl
              rw [show 2 * (m : Int) + 1 + 2 = 2 * ((m + 1 : Nat) : Int) + 1 by omega] at r
              exact r
             ·refine ⟨fun _ h => absurd h (by unfold spB; simp [p13]), fun _ => ?_⟩
              exact rnd_run 1000 [pk (sl_ln 22 46 3 9 ((L).map (rowT c)) ((L).length : Int)), pk (bT_lss 3 (2 * (m : Int) + 1) ((L).length : Int)), pk (sl_ix 22 46 9 ((L).map (rowT c)) (2 * m + 1) (2 * (m : Int) + 1) ((rowT c) (tat L (2 * m + 1))) (tat_row h1)), pk (b_add 3 (2 * (m : Int) + 1) 1 ⟨by omega, by omega⟩), pk (sl_ix 22 46 9 ((L).map (rowT c)) (2 * m + 2) ((2 * (m : Int) + 1) + 1) ((rowT c) (tat L (2 * m + 2))) (tat_row h2)), pk (bF_neq 3 ((tat L (2 * m + 1)).par) ((tat L (2 * m + 2)).par)), pk (bF_lss 3 ((tat L (2 * m + 1)).par) 0), pk (bF_geq 3 ((tat L (2 * m + 1)).par) (2 * (m : Int) + 1)), pk (d_neq (dcn (tat L (2 * m + 1))) ((tat L (2 * m + 1)).fst, (tat L (2 * m + 1)).nxt, true) false (decide_eq_true p4)), pk (d_neq (dcn (tat L (2 * m + 2))) ((tat L (2 * m + 1)).fst, (tat L (2 * m + 1)).nxt, false) false (decide_eq_true p5)), pk (bF_lss 3 ((tat L (2 * m + 1)).fst) 0), pk (bF_lss 3 ((tat L (2 * m + 1)).nxt) 0), pk (bF_eql 3 ((tat L (2 * m + 1)).fst) ((tat L (2 * m + 1)).nxt)), ⟨.ix ((tat L (2 * m + 1)).par) (pp L m) L.length, ⟨by omega, by omega⟩⟩, ⟨.part (flatR ((dlt L m).map rowZi)) ((pp L m) * 1) 1 [.b (.lit (.int .i64 (iat (dlt L m) (pp L m))))], (sub_int (D := dlt L m) dp)⟩, pk (b_add 3 (iat (dlt L m) (pp L m)) 1 ⟨by omega, by omega⟩), ⟨.ix (2 * (m : Int) + 1) (2 * m + 1) L.length, ⟨by omega, by omega⟩⟩, ⟨.upd (flatR ((dlt L m).map rowZi)) ((2 * m + 1) * 1) [.b (.lit (.int .i64 ((iat (dlt L m) (pp L m)) + 1)))] (flatR (((dlt L m).set (2 * m + 1) ((iat (dlt L m) (pp L m)) + 1)).map rowZi)), (upd_int (D := dlt L m) d1 ((iat (dlt L m) (pp L m)) + 1))⟩, pk (b_add 3 (2 * (m : Int) + 1) 1 ⟨by omega, by omega⟩), ⟨.ix (2 * (m : Int) + 1) (2 * m + 1) L.length, ⟨by omega, by omega⟩⟩, ⟨.part (flatR (((dlt L m).set (2 * m + 1) ((iat (dlt L m) (pp L m)) + 1)).map rowZi)) ((2 * m + 1) * 1) 1 [.b (.lit (.int .i64 (iat ((dlt L m).set (2 * m + 1) ((iat (dlt L m) (pp L m)) + 1)) (2 * m + 1))))], (sub_int (D := (dlt L m).set (2 * m + 1) ((iat (dlt L m) (pp L m)) + 1)) (by rw [List.length_set]; exact d1))⟩, ⟨.ix ((2 * (m : Int) + 1) + 1) (2 * m + 2) L.length, ⟨by omega, by omega⟩⟩, ⟨.upd (flatR (((dlt L m).set (2 * m + 1) ((iat (dlt L m) (pp L m)) + 1)).map rowZi)) ((2 * m + 2) * 1) [.b (.lit (.int .i64 (iat ((dlt L m).set (2 * m + 1) ((iat (dlt L m) (pp L m)) + 1)) (2 * m + 1))))] (flatR ((((dlt L m).set (2 * m + 1) ((iat (dlt L m) (pp L m)) + 1)).set (2 * m + 2) (iat ((dlt L m).set (2 * m + 1) ((iat (dlt L m) (pp L m)) + 1)) (2 * m + 1))).map rowZi)), (upd_int (D := (dlt L m).set (2 * m + 1) ((iat (dlt L m) (pp L m)) + 1)) (by rw [List.length_set]; exact d2) (iat ((dlt L m).set (2 * m + 1) ((iat (dlt L m) (pp L m)) + 1)) (2 * m + 1)))⟩, ⟨.ix ((tat L (2 * m + 1)).par) (pp L m) L.length, ⟨by omega, by omega⟩⟩, ⟨.part (flatR ((clt L m).map rowZi)) ((pp L m) * 1) 1 [.b (.lit (.int .i64 (iat (clt L m) (pp L m))))], (sub_int (D := clt L m) cp)⟩, pk (b_add 3 (iat (clt L m) (pp L m)) 2 ⟨by omega, by omega⟩), ⟨.ix ((tat L (2 * m + 1)).par) (pp L m) L.length, ⟨by omega, by omega⟩⟩, ⟨.upd (flatR ((clt L m).map rowZi)) ((pp L m) * 1) [.b (.lit (.int .i64 ((iat (clt L m) (pp L m)) + 2)))] (flatR (((clt L m).set (pp L m) ((iat (clt L m) (pp L m)) + 2)).map rowZi)), (upd_int (D := clt L m) cp ((iat (clt L m) (pp L m)) + 2))⟩, ⟨.ix (2 * (m : Int) + 1) (2 * m + 1) L.length, ⟨by omega, by omega⟩⟩, ⟨.part (flatR ((((dlt L m).set (2 * m + 1) ((iat (dlt L m) (pp L m)) + 1)).set (2 * m + 2) (iat ((dlt L m).set (2 * m + 1) ((iat (dlt L m) (pp L m)) + 1)) (2 * m + 1))).map rowZi)) ((2 * m + 1) * 1) 1 [.b (.lit (.int .i64 (iat (((dlt L m).set (2 * m + 1) ((iat (dlt L m) (pp L m)) + 1)).set (2 * m + 2) (iat ((dlt L m).set (2 * m + 1) ((iat (dlt L m) (pp L m)) + 1)) (2 * m + 1))) (2 * m + 1))))], (sub_int (D := ((dlt L m).set (2 * m + 1) ((iat (dlt L m) (pp L m)) + 1)).set (2 * m + 2) (iat ((dlt L m).set (2 * m + 1) ((iat (dlt L m) (pp L m)) + 1)) (2 * m + 1))) (by rw [List.length_set]; exact (by rw [List.length_set]; exact d1)))⟩, pk (b_gtr 3 (iat (((dlt L m).set (2 * m + 1) ((iat (dlt L m) (pp L m)) + 1)).set (2 * m + 2) (iat ((dlt L m).set (2 * m + 1) ((iat (dlt L m) (pp L m)) + 1)) (2 * m + 1))) (2 * m + 1)) 32 false (decide_eq_false (Int.not_lt.2 p9))), ⟨.ix ((tat L (2 * m + 1)).par) (pp L m) L.length, ⟨by omega, by omega⟩⟩, ⟨.part (flatR (((clt L m).set (pp L m) ((iat (clt L m) (pp L m)) + 2)).map rowZi)) ((pp L m) * 1) 1 [.b (.lit (.int .i64 (iat ((clt L m).set (pp L m) ((iat (clt L m) (pp L m)) + 2)) (pp L m))))], (sub_int (D := (clt L m).set (pp L m) ((iat (clt L m) (pp L m)) + 2)) (by rw [List.length_set]; exact cp))⟩, pk (b_gtr 3 (iat ((clt L m).set (pp L m) ((iat (clt L m) (pp L m)) + 2)) (pp L m)) 2 false (decide_eq_false (Int.not_lt.2 p10))), po (hdec), pk (sl_ix 22 46 9 ((L).map (rowT c)) (pp L m) ((tat L (2 * m + 1)).par) ((rowT c) (tat L (pp L m))) (tat_row hp)), po (cmpF (I := I) (c := c) (c' := c) (k := 12) (j := 12) (p := (tat L (2 * m + 1)).q) (q := (tat L (pp L m)).q) (r := cmpq ((tat L (2 * m + 1)).q) ((tat L (pp L m)).q)) rfl (by omega)), pk (b_lss 3 (cmpq ((tat L (2 * m + 1)).q) ((tat L (pp L m)).q)) 0 false (cmpq_nltA p12)), po (cmpF (I := I) (c := c) (c' := c) (k := 12) (j := 12) (p := (tat L (2 * m + 2)).q) (q := (tat L (pp L m)).q) (r := cmpq ((tat L (2 * m + 2)).q) ((tat L (pp L m)).q)) rfl (by omega)), pk (b_lss 3 (cmpq ((tat L (2 * m + 2)).q) ((tat L (pp L m)).q)) 0 true (cmpq_ltA p13))] (by kernel_rfl)
            ·refine ⟨fun _ h => absurd h (by unfold spB; simp [p12]), fun _ => ?_⟩
             exact rnd_run 1000 [pk (sl_ln 22 46 3 9 ((L).map (rowT c)) ((L).length : Int)), pk (bT_lss 3 (2 * (m : Int) + 1) ((L).length : Int)), pk (sl_ix 22 46 9 ((L).map (rowT c)) (2 * m + 1) (2 * (m : Int) + 1) ((rowT c) (tat L (2 * m + 1))) (tat_row h1)), pk (b_add 3 (2 * (m : Int) + 1) 1 ⟨by omega, by omega⟩), pk (sl_ix 22 46 9 ((L).map (rowT c)) (2 * m + 2) ((2 * (m : Int) + 1) + 1) ((rowT c) (tat L (2 * m + 2))) (tat_row h2)), pk (bF_neq 3 ((tat L (2 * m + 1)).par) ((tat L (2 * m + 2)).par)), pk (bF_lss 3 ((tat L (2 * m + 1)).par) 0), pk (bF_geq 3 ((tat L (2 * m + 1)).par) (2 * (m : Int) + 1)), pk (d_neq (dcn (tat L (2 * m + 1))) ((tat L (2 * m + 1)).fst, (tat L (2 * m + 1)).nxt, true) false (decide_eq_true p4)), pk (d_neq (dcn (tat L (2 * m + 2))) ((tat L (2 * m + 1)).fst, (tat L (2 * m + 1)).nxt, false) false (decide_eq_true p5)), pk (bF_lss 3 ((tat L (2 * m + 1)).fst) 0), pk (bF_lss 3 ((tat L (2 * m + 1)).nxt) 0), pk (bF_eql 3 ((tat L (2 * m + 1)).fst) ((tat L (2 * m + 1)).nxt)), ⟨.ix ((tat L (2 * m + 1)).par) (pp L m) L.length, ⟨by omega, by omega⟩⟩, ⟨.part (flatR ((dlt L m).map rowZi)) ((pp L m) * 1) 1 [.b (.lit (.int .i64 (iat (dlt L m) (pp L m))))], (sub_int (D := dlt L m) dp)⟩, pk (b_add 3 (iat (dlt L m) (pp L m)) 1 ⟨by omega, by omega⟩), ⟨.ix (2 * (m : Int) + 1) (2 * m + 1) L.length, ⟨by omega, by omega⟩⟩, ⟨.upd (flatR ((dlt L m).map rowZi)) ((2 * m + 1) * 1) [.b (.lit (.int .i64 ((iat (dlt L m) (pp L m)) + 1)))] (flatR (((dlt L m).set (2 * m + 1) ((iat (dlt L m) (pp L m)) + 1)).map rowZi)), (upd_int (D := dlt L m) d1 ((iat (dlt L m) (pp L m)) + 1))⟩, pk (b_add 3 (2 * (m : Int) + 1) 1 ⟨by omega, by omega⟩), ⟨.ix (2 * (m : Int) + 1) (2 * m + 1) L.length, ⟨by omega, by omega⟩⟩, ⟨.part (flatR (((dlt L m).set (2 * m + 1) ((iat (dlt L m) (pp L m)) + 1)).map rowZi)) ((2 * m + 1) * 1) 1 [.b (.lit (.int .i64 (iat ((dlt L m).set (2 * m + 1) ((iat (dlt L m) (pp L m)) + 1)) (2 * m + 1))))], (sub_int (D := (dlt L m).set (2 * m + 1) ((iat (dlt L m) (pp L m)) + 1)) (by rw [List.length_set]; exact d1))⟩, ⟨.ix ((2 * (m : Int) + 1) + 1) (2 * m + 2) L.length, ⟨by omega, by omega⟩⟩, ⟨.upd (flatR (((dlt L m).set (2 * m + 1) ((iat (dlt L m) (pp L m)) + 1)).map rowZi)) ((2 * m + 2) * 1) [.b (.lit (.int .i64 (iat ((dlt L m).set (2 * m + 1) ((iat (dlt L m) (pp L m)) + 1)) (2 * m + 1))))] (flatR ((((dlt L m).set (2 * m + 1) ((iat (dlt L m) (pp L m)) + 1)).set (2 * m + 2) (iat ((dlt L m).set (2 * m + 1) ((iat (dlt L m) (pp L m)) + 1)) (2 * m + 1))).map rowZi)), (upd_int (D := (dlt L m).set (2 * m + 1) ((iat (dlt L m) (pp L m)) + 1)) (by rw [List.length_set]; exact d2) (iat ((dlt L m).set (2 * m + 1) ((iat (dlt L m) (pp L m)) + 1)) (2 * m + 1)))⟩, ⟨.ix ((tat L (2 * m + 1)).par) (pp L m) L.length, ⟨by omega, by omega⟩⟩, ⟨.part (flatR ((clt L m).map rowZi)) ((pp L m) * 1) 1 [.b (.lit (.int .i64 (iat (clt L m) (pp L m))))], (sub_int (D := clt L m) cp)⟩, pk (b_add 3 (iat (clt L m) (pp L m)) 2 ⟨by omega, by omega⟩), ⟨.ix ((tat L (2 * m + 1)).par) (pp L m) L.length, ⟨by omega, by omega⟩⟩, ⟨.upd (flatR ((clt L m).map rowZi)) ((pp L m) * 1) [.b (.lit (.int .i64 ((iat (clt L m) (pp L m)) + 2)))] (flatR (((clt L m).set (pp L m) ((iat (clt L m) (pp L m)) + 2)).map rowZi)), (upd_int (D := clt L m) cp ((iat (clt L m) (pp L m)) + 2))⟩, ⟨.ix (2 * (m : Int) + 1) (2 * m + 1) L.length, ⟨by omega, by omega⟩⟩, ⟨.part (flatR ((((dlt L m).set (2 * m + 1) ((iat (dlt L m) (pp L m)) + 1)).set (2 * m + 2) (iat ((dlt L m).set (2 * m + 1) ((iat (dlt L m) (pp L m)) + 1)) (2 * m + 1))).map rowZi)) ((2 * m + 1) * 1) 1 [.b (.lit (.int .i64 (iat (((dlt L m).set (2 * m + 1) ((iat (dlt L m) (pp L m)) + 1)).set (2 * m + 2) (iat ((dlt L m).set (2 * m + 1) ((iat (dlt L m) (pp L m)) + 1)) (2 * m + 1))) (2 * m + 1))))], (sub_int (D := ((dlt L m).set (2 * m + 1) ((iat (dlt L m) (pp L m)) + 1)).set (2 * m + 2) (iat ((dlt L m).set (2 * m + 1) ((iat (dlt L m) (pp L m)) + 1)) (2 * m + 1))) (by rw [List.length_set]; exact (by rw [List.length_set]; exact d1)))⟩, pk (b_gtr 3 (iat (((dlt L m).set (2 * m + 1) ((iat (dlt L m) (pp L m)) + 1)).set (2 * m + 2) (iat ((dlt L m).set (2 * m + 1) ((iat (dlt L m) (pp L m)) + 1)) (2 * m + 1))) (2 * m + 1)) 32 false (decide_eq_false (Int.not_lt.2 p9))), ⟨.ix ((tat L (2 * m + 1)).par) (pp L m) L.length, ⟨by omega, by omega⟩⟩, ⟨.part (flatR (((clt L m).set (pp L m) ((iat (clt L m) (pp L m)) + 2)).map rowZi)) ((pp L m) * 1) 1 [.b (.lit (.int .i64 (iat ((clt L m).set (pp L m) ((iat (clt L m) (pp L m)) + 2)) (pp L m))))], (sub_int (D := (clt L m).set (pp L m) ((iat (clt L m) (pp L m)) + 2)) (by rw [List.length_set]; exact cp))⟩, pk (b_gtr 3 (iat ((clt L m).set (pp L m) ((iat (clt L m) (pp L m)) + 2)) (pp L m)) 2 false (decide_eq_false (Int.not_lt.2 p10))), po (hdec), pk (sl_ix 22 46 9 ((L).map (rowT c)) (pp L m) ((tat L (2 * m + 1)).par) ((rowT c) (tat L (pp L m))) (tat_row hp)), po (cmpF (I := I) (c := c) (c' := c) (k := 12) (j := 12) (p := (tat L (2 * m + 1)).q) (q := (tat L (pp L m)).q) (r := cmpq ((tat L (2 * m + 1)).q) ((tat L (pp L m)).q)) rfl (by omega)), pk (b_lss 3 (cmpq ((tat L (2 * m + 1)).q) ((tat L (pp L m)).q)) 0 true (cmpq_ltA p12))] (by kernel_rfl)
          ·refine ⟨fun _ h => absurd h (by unfold spB; simp [p10]), fun _ => ?_⟩
           exact rnd_run 1000 [pk (sl_ln 22 46 3 9 ((L).map (rowT c)) ((L).length : Int)), pk (bT_lss 3 (2 * (m : Int) + 1) ((L).length : Int)), pk (sl_ix 22 46 9 ((L).map (rowT c)) (2 * m + 1) (2 * (m : Int) + 1) ((rowT c) (tat L (2 * m + 1))) (tat_row h1)), pk (b_add 3 (2 * (m : Int) + 1) 1 ⟨by omega, by omega⟩), pk (sl_ix 22 46 9 ((L).map (rowT c)) (2 * m + 2) ((2 * (m : Int) + 1) + 1) ((rowT c) (tat L (2 * m + 2))) (tat_row h2)), pk (bF_neq 3 ((tat L (2 * m + 1)).par) ((tat L (2 * m + 2)).par)), pk (bF_lss 3 ((tat L (2 * m + 1)).par) 0), pk (bF_geq 3 ((tat L (2 * m + 1)).par) (2 * (m : Int) + 1)), pk (d_neq (dcn (tat L (2 * m + 1))) ((tat L (2 * m + 1)).fst, (tat L (2 * m + 1)).nxt, true) false (decide_eq_true p4)), pk (d_neq (dcn (tat L (2 * m + 2))) ((tat L (2 * m + 1)).fst, (tat L (2 * m + 1)).nxt, false) false (decide_eq_true p5)), pk (bF_lss 3 ((tat L (2 * m + 1)).fst) 0), pk (bF_lss 3 ((tat L (2 * m + 1)).nxt) 0), pk (bF_eql 3 ((tat L (2 * m + 1)).fst) ((tat L (2 * m + 1)).nxt)), ⟨.ix ((tat L (2 * m + 1)).par) (pp L m) L.length, ⟨by omega, by omega⟩⟩, ⟨.part (flatR ((dlt L m).map rowZi)) ((pp L m) * 1) 1 [.b (.lit (.int .i64 (iat (dlt L m) (pp L m))))], (sub_int (D := dlt L m) dp)⟩, pk (b_add 3 (iat (dlt L m) (pp L m)) 1 ⟨by omega, by omega⟩), ⟨.ix (2 * (m : Int) + 1) (2 * m + 1) L.length, ⟨by omega, by omega⟩⟩, ⟨.upd (flatR ((dlt L m).map rowZi)) ((2 * m + 1) * 1) [.b (.lit (.int .i64 ((iat (dlt L m) (pp L m)) + 1)))] (flatR (((dlt L m).set (2 * m + 1) ((iat (dlt L m) (pp L m)) + 1)).map rowZi)), (upd_int (D := dlt L m) d1 ((iat (dlt L m) (pp L m)) + 1))⟩, pk (b_add 3 (2 * (m : Int) + 1) 1 ⟨by omega, by omega⟩), ⟨.ix (2 * (m : Int) + 1) (2 * m + 1) L.length, ⟨by omega, by omega⟩⟩, ⟨.part (flatR (((dlt L m).set (2 * m + 1) ((iat (dlt L m) (pp L m)) + 1)).map rowZi)) ((2 * m + 1) * 1) 1 [.b (.lit (.int .i64 (iat ((dlt L m).set (2 * m + 1) ((iat (dlt L m) (pp L m)) + 1)) (2 * m + 1))))], (sub_int (D := (dlt L m).set (2 * m + 1) ((iat (dlt L m) (pp L m)) + 1)) (by rw [List.length_set]; exact d1))⟩, ⟨.ix ((2 * (m : Int) + 1) + 1) (2 * m + 2) L.length, ⟨by omega, by omega⟩⟩, ⟨.upd (flatR (((dlt L m).set (2 * m + 1) ((iat (dlt L m) (pp L m)) + 1)).map rowZi)) ((2 * m + 2) * 1) [.b (.lit (.int .i64 (iat ((dlt L m).set (2 * m + 1) ((iat (dlt L m) (pp L m)) + 1)) (2 * m + 1))))] (flatR ((((dlt L m).set (2 * m + 1) ((iat (dlt L m) (pp L m)) + 1)).set (2 * m + 2) (iat ((dlt L m).set (2 * m + 1) ((iat (dlt L m) (pp L m)) + 1)) (2 * m + 1))).map rowZi)), (upd_int (D := (dlt L m).set (2 * m + 1) ((iat (dlt L m) (pp L m)) + 1)) (by rw [List.length_set]; exact d2) (iat ((dlt L m).set (2 * m + 1) ((iat (dlt L m) (pp L m)) + 1)) (2 * m + 1)))⟩, ⟨.ix ((tat L (2 * m + 1)).par) (pp L m) L.length, ⟨by omega, by omega⟩⟩, ⟨.part (flatR ((clt L m).map rowZi)) ((pp L m) * 1) 1 [.b (.lit (.int .i64 (iat (clt L m) (pp L m))))], (sub_int (D := clt L m) cp)⟩, pk (b_add 3 (iat (clt L m) (pp L m)) 2 ⟨by omega, by omega⟩), ⟨.ix ((tat L (2 * m + 1)).par) (pp L m) L.length, ⟨by omega, by omega⟩⟩, ⟨.upd (flatR ((clt L m).map rowZi)) ((pp L m) * 1) [.b (.lit (.int .i64 ((iat (clt L m) (pp L m)) + 2)))] (flatR (((clt L m).set (pp L m) ((iat (clt L m) (pp L m)) + 2)).map rowZi)), (upd_int (D := clt L m) cp ((iat (clt L m) (pp L m)) + 2))⟩, ⟨.ix (2 * (m : Int) + 1) (2 * m + 1) L.length, ⟨by omega, by omega⟩⟩, ⟨.part (flatR ((((dlt L m).set (2 * m + 1) ((iat (dlt L m) (pp L m)) + 1)).set (2 * m + 2) (iat ((dlt L m).set (2 * m + 1) ((iat (dlt L m) (pp L m)) + 1)) (2 * m + 1))).map rowZi)) ((2 * m + 1) * 1) 1 [.b (.lit (.int .i64 (iat (((dlt L m).set (2 * m + 1) ((iat (dlt L m) (pp L m)) + 1)).set (2 * m + 2) (iat ((dlt L m).set (2 * m + 1) ((iat (dlt L m) (pp L m)) + 1)) (2 * m + 1))) (2 * m + 1))))], (sub_int (D := ((dlt L m).set (2 * m + 1) ((iat (dlt L m) (pp L m)) + 1)).set (2 * m + 2) (iat ((dlt L m).set (2 * m + 1) ((iat (dlt L m) (pp L m)) + 1)) (2 * m + 1))) (by rw [List.length_set]; exact (by rw [List.length_set]; exact d1)))⟩, pk (b_gtr 3 (iat (((dlt L m).set (2 * m + 1) ((iat (dlt L m) (pp L m)) + 1)).set (2 * m + 2) (iat ((dlt L m).set (2 * m + 1) ((iat (dlt L m) (pp L m)) + 1)) (2 * m + 1))) (2 * m + 1)) 32 false (decide_eq_false (Int.not_lt.2 p9))), ⟨.ix ((tat L (2 * m + 1)).par) (pp L m) L.length, ⟨by omega, by omega⟩⟩, ⟨.part (flatR (((clt L m).set (pp L m) ((iat (clt L m) (pp L m)) + 2)).map rowZi)) ((pp L m) * 1) 1 [.b (.lit (.int .i64 (iat ((clt L m).set (pp L m) ((iat (clt L m) (pp L m)) + 2)) (pp L m))))], (sub_int (D := (clt L m).set (pp L m) ((iat (clt L m) (pp L m)) + 2)) (by rw [List.length_set]; exact cp))⟩, pk (b_gtr 3 (iat ((clt L m).set (pp L m) ((iat (clt L m) (pp L m)) + 2)) (pp L m)) 2 true (decide_eq_true (Int.not_le.1 p10)))] (by kernel_rfl)
         ·refine ⟨fun _ h => absurd h (by unfold spB; simp [p9]), fun _ => ?_⟩
          exact rnd_run 1000 [pk (sl_ln 22 46 3 9 ((L).map (rowT c)) ((L).length : Int)), pk (bT_lss 3 (2 * (m : Int) + 1) ((L).length : Int)), pk (sl_ix 22 46 9 ((L).map (rowT c)) (2 * m + 1) (2 * (m : Int) + 1) ((rowT c) (tat L (2 * m + 1))) (tat_row h1)), pk (b_add 3 (2 * (m : Int) + 1) 1 ⟨by omega, by omega⟩), pk (sl_ix 22 46 9 ((L).map (rowT c)) (2 * m + 2) ((2 * (m : Int) + 1) + 1) ((rowT c) (tat L (2 * m + 2))) (tat_row h2)), pk (bF_neq 3 ((tat L (2 * m + 1)).par) ((tat L (2 * m + 2)).par)), pk (bF_lss 3 ((tat L (2 * m + 1)).par) 0), pk (bF_geq 3 ((tat L (2 * m + 1)).par) (2 * (m : Int) + 1)), pk (d_neq (dcn (tat L (2 * m + 1))) ((tat L (2 * m + 1)).fst, (tat L (2 * m + 1)).nxt, true) false (decide_eq_true p4)), pk (d_neq (dcn (tat L (2 * m + 2))) ((tat L (2 * m + 1)).fst, (tat L (2 * m + 1)).nxt, false) false (decide_eq_true p5)), pk (bF_lss 3 ((tat L (2 * m + 1)).fst) 0), pk (bF_lss 3 ((tat L (2 * m + 1)).nxt) 0), pk (bF_eql 3 ((tat L (2 * m + 1)).fst) ((tat L (2 * m + 1)).nxt)), ⟨.ix ((tat L (2 * m + 1)).par) (pp L m) L.length, ⟨by omega, by omega⟩⟩, ⟨.part (flatR ((dlt L m).map rowZi)) ((pp L m) * 1) 1 [.b (.lit (.int .i64 (iat (dlt L m) (pp L m))))], (sub_int (D := dlt L m) dp)⟩, pk (b_add 3 (iat (dlt L m) (pp L m)) 1 ⟨by omega, by omega⟩), ⟨.ix (2 * (m : Int) + 1) (2 * m + 1) L.length, ⟨by omega, by omega⟩⟩, ⟨.upd (flatR ((dlt L m).map rowZi)) ((2 * m + 1) * 1) [.b (.lit (.int .i64 ((iat (dlt L m) (pp L m)) + 1)))] (flatR (((dlt L m).set (2 * m + 1) ((iat (dlt L m) (pp L m)) + 1)).map rowZi)), (upd_int (D := dlt L m) d1 ((iat (dlt L m) (pp L m)) + 1))⟩, pk (b_add 3 (2 * (m : Int) + 1) 1 ⟨by omega, by omega⟩), ⟨.ix (2 * (m : Int) + 1) (2 * m + 1) L.length, ⟨by omega, by omega⟩⟩, ⟨.part (flatR (((dlt L m).set (2 * m + 1) ((iat (dlt L m) (pp L m)) + 1)).map rowZi)) ((2 * m + 1) * 1) 1 [.b (.lit (.int .i64 (iat ((dlt L m).set (2 * m + 1) ((iat (dlt L m) (pp L m)) + 1)) (2 * m + 1))))], (sub_int (D := (dlt L m).set (2 * m + 1) ((iat (dlt L m) (pp L m)) + 1)) (by rw [List.length_set]; exact d1))⟩, ⟨.ix ((2 * (m : Int) + 1) + 1) (2 * m + 2) L.length, ⟨by omega, by omega⟩⟩, ⟨.upd (flatR (((dlt L m).set (2 * m + 1) ((iat (dlt L m) (pp L m)) + 1)).map rowZi)) ((2 * m + 2) * 1) [.b (.lit (.int .i64 (iat ((dlt L m).set (2 * m + 1) ((iat (dlt L m) (pp L m)) + 1)) (2 * m + 1))))] (flatR ((((dlt L m).set (2 * m + 1) ((iat (dlt L m) (pp L m)) + 1)).set (2 * m + 2) (iat ((dlt L m).set (2 * m + 1) ((iat (dlt L m) (pp L m)) + 1)) (2 * m + 1))).map rowZi)), (upd_int (D := (dlt L m).set (2 * m + 1) ((iat (dlt L m) (pp L m)) + 1)) (by rw [List.length_set]; exact d2) (iat ((dlt L m).set (2 * m + 1) ((iat (dlt L m) (pp L m)) + 1)) (2 * m + 1)))⟩, ⟨.ix ((tat L (2 * m + 1)).par) (pp L m) L.length, ⟨by omega, by omega⟩⟩, ⟨.part (flatR ((clt L m).map rowZi)) ((pp L m) * 1) 1 [.b (.lit (.int .i64 (iat (clt L m) (pp L m))))], (sub_int (D := clt L m) cp)⟩, pk (b_add 3 (iat (clt L m) (pp L m)) 2 ⟨by omega, by omega⟩), ⟨.ix ((tat L (2 * m + 1)).par) (pp L m) L.length, ⟨by omega, by omega⟩⟩, ⟨.upd (flatR ((clt L m).map rowZi)) ((pp L m) * 1) [.b (.lit (.int .i64 ((iat (clt L m) (pp L m)) + 2)))] (flatR (((clt L m).set (pp L m) ((iat (clt L m) (pp L m)) + 2)).map rowZi)), (upd_int (D := clt L m) cp ((iat (clt L m) (pp L m)) + 2))⟩, ⟨.ix (2 * (m : Int) + 1) (2 * m + 1) L.length, ⟨by omega, by omega⟩⟩, ⟨.part (flatR ((((dlt L m).set (2 * m + 1) ((iat (dlt L m) (pp L m)) + 1)).set (2 * m + 2) (iat ((dlt L m).set (2 * m + 1) ((iat (dlt L m) (pp L m)) + 1)) (2 * m + 1))).map rowZi)) ((2 * m + 1) * 1) 1 [.b (.lit (.int .i64 (iat (((dlt L m).set (2 * m + 1) ((iat (dlt L m) (pp L m)) + 1)).set (2 * m + 2) (iat ((dlt L m).set (2 * m + 1) ((iat (dlt L m) (pp L m)) + 1)) (2 * m + 1))) (2 * m + 1))))], (sub_int (D := ((dlt L m).set (2 * m + 1) ((iat (dlt L m) (pp L m)) + 1)).set (2 * m + 2) (iat ((dlt L m).set (2 * m + 1) ((iat (dlt L m) (pp L m)) + 1)) (2 * m + 1))) (by rw [List.length_set]; exact (by rw [List.length_set]; exact d1)))⟩, pk (b_gtr 3 (iat (((dlt L m).set (2 * m + 1) ((iat (dlt L m) (pp L m)) + 1)).set (2 * m + 2) (iat ((dlt L m).set (2 * m + 1) ((iat (dlt L m) (pp L m)) + 1)) (2 * m + 1))) (2 * m + 1)) 32 true (decide_eq_true (Int.not_le.1 p9)))] (by kernel_rfl)
     ·refine ⟨fun h => absurd h (by unfold prB; simp [p5]), fun _ => ?_⟩
      exact rnd_run 1000 [pk (sl_ln 22 46 3 9 ((L).map (rowT c)) ((L).length : Int)), pk (bT_lss 3 (2 * (m : Int) + 1) ((L).length : Int)), pk (sl_ix 22 46 9 ((L).map (rowT c)) (2 * m + 1) (2 * (m : Int) + 1) ((rowT c) (tat L (2 * m + 1))) (tat_row h1)), pk (b_add 3 (2 * (m : Int) + 1) 1 ⟨by omega, by omega⟩), pk (sl_ix 22 46 9 ((L).map (rowT c)) (2 * m + 2) ((2 * (m : Int) + 1) + 1) ((rowT c) (tat L (2 * m + 2))) (tat_row h2)), pk (bF_neq 3 ((tat L (2 * m + 1)).par) ((tat L (2 * m + 2)).par)), pk (bF_lss 3 ((tat L (2 * m + 1)).par) 0), pk (bF_geq 3 ((tat L (2 * m + 1)).par) (2 * (m : Int) + 1)), pk (d_neq (dcn (tat L (2 * m + 1))) ((tat L (2 * m + 1)).fst, (tat L (2 * m + 1)).nxt, true) false (decide_eq_true p4)), pk (d_neq (dcn (tat L (2 * m + 2))) ((tat L (2 * m + 1)).fst, (tat L (2 * m + 1)).nxt, false) true (decide_eq_false p5))] (by kernel_rfl)
    ·refine ⟨fun h => absurd h (by unfold prB; simp [p4]), fun _ => ?_⟩
     exact rnd_run 1000 [pk (sl_ln 22 46 3 9 ((L).map (rowT c)) ((L).length : Int)), pk (bT_lss 3 (2 * (m : Int) + 1) ((L).length : Int)), pk (sl_ix 22 46 9 ((L).map (rowT c)) (2 * m + 1) (2 * (m : Int) + 1) ((rowT c) (tat L (2 * m + 1))) (tat_row h1)), pk (b_add 3 (2 * (m : Int) + 1) 1 ⟨by omega, by omega⟩), pk (sl_ix 22 46 9 ((L).map (rowT c)) (2 * m + 2) ((2 * (m : Int) + 1) + 1) ((rowT c) (tat L (2 * m + 2))) (tat_row h2)), pk (bF_neq 3 ((tat L (2 * m + 1)).par) ((tat L (2 * m + 2)).par)), pk (bF_lss 3 ((tat L (2 * m + 1)).par) 0), pk (bF_geq 3 ((tat L (2 * m + 1)).par) (2 * (m : Int) + 1)), pk (d_neq (dcn (tat L (2 * m + 1))) ((tat L (2 * m + 1)).fst, (tat L (2 * m + 1)).nxt, true) true (decide_eq_false p4))] (by kernel_rfl)
 ·refine ⟨fun h => absurd h (by unfold prB; simp [p1]), fun _ => ?_⟩
  exact rnd_run 1000 [pk (sl_ln 22 46 3 9 ((L).map (rowT c)) ((L).length : Int)), pk (bT_lss 3 (2 * (m : Int) + 1) ((L).length : Int)), pk (sl_ix 22 46 9 ((L).map (rowT c)) (2 * m + 1) (2 * (m : Int) + 1) ((rowT c) (tat L (2 * m + 1))) (tat_row h1)), pk (b_add 3 (2 * (m : Int) + 1) 1 ⟨by omega, by omega⟩), pk (sl_ix 22 46 9 ((L).map (rowT c)) (2 * m + 2) ((2 * (m : Int) + 1) + 1) ((rowT c) (tat L (2 * m + 2))) (tat_row h2)), pk (bT_neq 3 ((tat L (2 * m + 1)).par) ((tat L (2 * m + 2)).par))] (by kernel_rfl)
theorem first_bad (ok : Nat → Bool) : ∀ M, (∀ x, x < M → ok x = true) ∨ ∃ i, i < M ∧ (∀ x, x < i → ok x = true) ∧ ok i = false
 | 0 => .inl fun x hx => by omega
 | M + 1 => by
  rcases first_bad ok M with h | ⟨i, h1, h2, h3⟩
  ·cases hM : ok M with
   | true =>
    refine .inl fun x hx => ?_
    by_cases e : x = M
    ·rw [e]; exact hM
    ·exact h x (by omega)
   | false => exact .inr ⟨M, by omega, h, hM⟩
  ·exact .inr ⟨i, by omega, h2, h3⟩
theorem shaped_pairs (L : List Nd) (f : Bool) (z : Int) (M : Nat) (hM : L.length = 2 * M + 1) (hl : L.length ≤ 2000) (h : ∀ x, x < M → (prB L x && spB L x) = true) :
  LoopTr Try.prog I 195 (loopC Try.prog 18 0) (shpst c L f z (dlt L 0) (clt L 0) (2 * ((0 : Nat) : Int) + 1)) (.exit 0) ⟨[(1, .cv (.one (.ptr 0 0))), (5, .cv (.one (.sl 32)))], [(27, some ⟨3, some (1, L.length), flatR ((dlt L M).map rowZi)⟩), (32, some ⟨3, some (1, L.length), flatR ((clt L M).map rowZi)⟩), (0, some ⟨24, none, [.b (.it (slI 9 ((L).map (rowT c)))), .b (.lit (.bool f)), .b (.lit (.int .i64 z))]⟩)], 50⟩ :=
 loop_up (by simp) (fun m => shpst c L f z (dlt L m) (clt L m) (2 * (m : Int) + 1)) M (fun m hm => by
  have h1 := h m hm
  rw [Bool.and_eq_true] at h1
  exact (shaped_round L f z m (by omega) hl (dn_prs fun x hx => by have := h x (by omega); rw [Bool.and_eq_true] at this; exact this.1)).1 h1.1 h1.2) (by
  exact Rnd.cut2 (n := 50) (show Rnd _ _ _ _ _ _ ⟨[(1, .cv (.one (.ptr 0 0))), (5, .cv (.one (.sl 32)))], [(27, some ⟨3, some (1, L.length), flatR ((dlt L M).map rowZi)⟩), (32, some ⟨3, some (1, L.length), flatR ((clt L M).map rowZi)⟩), (0, some ⟨24, none, [.b (.it (slI 9 ((L).map (rowT c)))), .b (.lit (.bool f)), .b (.lit (.int .i64 z))]⟩)], 55⟩ from rnd_run 1000 [pk (sl_ln 22 46 3 9 ((L).map (rowT c)) ((L).length : Int)), pk (bF_lss 3 (2 * (M : Int) + 1) ((L).length : Int))] (by kernel_rfl)) rfl)
theorem shaped_pairs_bad (L : List Nd) (f : Bool) (z : Int) (i : Nat) (hi : 2 * i + 2 < L.length) (hl : L.length ≤ 2000) (h : ∀ x, x < i → (prB L x && spB L x) = true) (hb : (prB L i && spB L i) = false) :
  LoopTr Try.prog I 195 (loopC Try.prog 18 0) (shpst c L f z (dlt L 0) (clt L 0) (2 * ((0 : Nat) : Int) + 1)) .ret ⟨[(2, lb false)], [], 50⟩ :=
 have hp : ∀ x, x < i → prB L x = true := fun x hx => by have := h x hx; rw [Bool.and_eq_true] at this; exact this.1
 loop_up (by simp) (fun m => shpst c L f z (dlt L m) (clt L m) (2 * (m : Int) + 1)) i (fun m hm => by
  have h1 := h m hm
  rw [Bool.and_eq_true] at h1
  exact (shaped_round L f z m (by omega) hl (dn_prs fun x hx => hp x (by omega))).1 h1.1 h1.2) ((shaped_round L f z i hi hl (dn_prs hp)).2 hb)

def chkst (c : Bool) (L : List Nd) (i : Int) : Go.Proofs.Ytflajoflpkboiaa.St := ⟨[(5, .cv (.one (.sl 32))), (178, .cv (.one (.b (.it (slI 9 ((L).map (rowT c))))))), (179, .cv (.one (.b (.lit (.int .i64 (L.length : Int)))))), (180, .cv (.one (.b (.lit (.int .i64 i)))))], [(32, some ⟨3, some (1, L.length), flatR ((clt L (L.length / 2)).map rowZi)⟩)], 90⟩
theorem shaped_nodes (L : List Nd) (hl : L.length ≤ 2000) (i : Nat) (hi : i < L.length) :
  (chB L i = true → Rnd Try.prog I 195 (loopC Try.prog 18 1) (chkst c L (i : Int)) .normal (chkst c L ((i + 1 : Nat) : Int))) ∧ (chB L i = false → Rnd Try.prog I 195 (loopC Try.prog 18 1) (chkst c L (i : Int)) .ret ⟨[(2, lb false)], [], 50⟩) := by
 have ci : i < (clt L (L.length / 2)).length := by rw [clt_len]; exact hi
 by_cases h1 : (tat L i).st = 1
 ·by_cases h2 : 0 < iat (clt L (L.length / 2)) i
  ·refine ⟨fun _ => ?_, fun h => absurd h (by unfold chB; simp [h1, h2])⟩
   exact Rnd.cut (n := 90) (show Rnd _ _ _ _ _ _ ⟨[(5, .cv (.one (.sl 32))), (178, .cv (.one (.b (.it (slI 9 ((L).map (rowT c))))))), (179, .cv (.one (.b (.lit (.int .i64 (L.length : Int)))))), (180, .cv (.one (.b (.lit (.int .i64 ((i : Int) + 1))))))], [(32, some ⟨3, some (1, L.length), flatR ((clt L (L.length / 2)).map rowZi)⟩)], 108⟩ from rnd_run 1000 [pk (bT_lss 3 (i : Int) (L.length : Int)), pk (sl_ix 22 46 9 ((L).map (rowT c)) i (i : Int) ((rowT c) (tat L i)) (tat_row hi)), pk (bT_eql 3 ((tat L i).st) 1), ⟨.ix (i : Int) i L.length, ⟨by omega, by omega⟩⟩, ⟨.part (flatR ((clt L (L.length / 2)).map rowZi)) (i * 1) 1 [.b (.lit (.int .i64 (iat (clt L (L.length / 2)) (i))))], (sub_int (D := clt L (L.length / 2)) ci)⟩, pk (bT_gtr 3 (iat (clt L (L.length / 2)) (i)) 0), pa, pk (b_add 3 (i : Int) 1 ⟨by omega, by omega⟩)] (by kernel_rfl)) rfl
  ·refine ⟨fun h => absurd h (by unfold chB; simp [h1, h2]), fun _ => ?_⟩
   exact rnd_run 1000 [pk (bT_lss 3 (i : Int) (L.length : Int)), pk (sl_ix 22 46 9 ((L).map (rowT c)) i (i : Int) ((rowT c) (tat L i)) (tat_row hi)), pk (bT_eql 3 ((tat L i).st) 1), ⟨.ix (i : Int) i L.length, ⟨by omega, by omega⟩⟩, ⟨.part (flatR ((clt L (L.length / 2)).map rowZi)) (i * 1) 1 [.b (.lit (.int .i64 (iat (clt L (L.length / 2)) (i))))], (sub_int (D := clt L (L.length / 2)) ci)⟩, pk (bF_gtr 3 (iat (clt L (L.length / 2)) (i)) 0), pa] (by kernel_rfl)
 ·by_cases h2 : 0 < iat (clt L (L.length / 2)) i
  ·refine ⟨fun h => absurd h (by unfold chB; simp [h1, h2]), fun _ => ?_⟩
   exact rnd_run 1000 [pk (bT_lss 3 (i : Int) (L.length : Int)), pk (sl_ix 22 46 9 ((L).map (rowT c)) i (i : Int) ((rowT c) (tat L i)) (tat_row hi)), pk (bF_eql 3 ((tat L i).st) 1), ⟨.ix (i : Int) i L.length, ⟨by omega, by omega⟩⟩, ⟨.part (flatR ((clt L (L.length / 2)).map rowZi)) (i * 1) 1 [.b (.lit (.int .i64 (iat (clt L (L.length / 2)) (i))))], (sub_int (D := clt L (L.length / 2)) ci)⟩, pk (bT_gtr 3 (iat (clt L (L.length / 2)) (i)) 0), pa] (by kernel_rfl)
  ·refine ⟨fun _ => ?_, fun h => absurd h (by unfold chB; simp [h1, h2])⟩
   exact Rnd.cut (n := 90) (show Rnd _ _ _ _ _ _ ⟨[(5, .cv (.one (.sl 32))), (178, .cv (.one (.b (.it (slI 9 ((L).map (rowT c))))))), (179, .cv (.one (.b (.lit (.int .i64 (L.length : Int)))))), (180, .cv (.one (.b (.lit (.int .i64 ((i : Int) + 1))))))], [(32, some ⟨3, some (1, L.length), flatR ((clt L (L.length / 2)).map rowZi)⟩)], 108⟩ from rnd_run 1000 [pk (bT_lss 3 (i : Int) (L.length : Int)), pk (sl_ix 22 46 9 ((L).map (rowT c)) i (i : Int) ((rowT c) (tat L i)) (tat_row hi)), pk (bF_eql 3 ((tat L i).st) 1), ⟨.ix (i : Int) i L.length, ⟨by omega, by omega⟩⟩, ⟨.part (flatR ((clt L (L.length / 2)).map rowZi)) (i * 1) 1 [.b (.lit (.int .i64 (iat (clt L (L.length / 2)) (i))))], (sub_int (D := clt L (L.length / 2)) ci)⟩, pk (bF_gtr 3 (iat (clt L (L.length / 2)) (i)) 0), pa, pk (b_add 3 (i : Int) 1 ⟨by omega, by omega⟩)] (by kernel_rfl)) rfl
theorem shaped_nodes_ok (L : List Nd) (hl : L.length ≤ 2000) (h : ∀ i, i < L.length → chB L i = true) : LoopTr Try.prog I 195 (loopC Try.prog 18 1) (chkst c L ((0 : Nat) : Int)) (.exit 2) ⟨[], [], 50⟩ :=
 loop_up (by simp) (fun i => chkst c L (i : Int)) L.length (fun i hi => (shaped_nodes L hl i hi).1 (h i hi)) (by
  exact rnd_run 1000 [pk (bF_lss 3 (L.length : Int) (L.length : Int))] (by kernel_rfl))
theorem shaped_nodes_bad (L : List Nd) (hl : L.length ≤ 2000) (i : Nat) (hi : i < L.length) (h : ∀ x, x < i → chB L x = true) (hb : chB L i = false) : LoopTr Try.prog I 195 (loopC Try.prog 18 1) (chkst c L ((0 : Nat) : Int)) .ret ⟨[(2, lb false)], [], 50⟩ :=
 loop_up (by simp) (fun i => chkst c L (i : Int)) i (fun x hx => (shaped_nodes L hl x (by omega)).1 (h x hx)) ((shaped_nodes L hl i hi).2 hb)

theorem shaped_sp (L : List Nd) (f : Bool) (z : Int) (h0 : 0 < L.length) (hl : L.length ≤ 2000) : Sp Try.prog I 18 [trT c L f z] (lb (shB L)) := by
 have h00 := h0
 by_cases q1 : (tat L 0).par = -1
 ·by_cases q2 : dcn (tat L 0) = (0, 0, false)
  ·by_cases q3 : L.length % 2 = 1
   ·obtain ⟨M, hM⟩ : ∃ M, L.length = 2 * M + 1 := ⟨L.length / 2, by omega⟩
    have hM2 : L.length / 2 = M := by omega
    rcases first_bad (fun m => prB L m && spB L m) M with h | ⟨i, h1, h2, h3⟩
    ·have lo := shaped_pairs (I := I) (c := c) L f z M hM hl h
     unfold shpst at lo
     rw [show dlt L 0 = List.replicate L.length 0 from rfl, show clt L 0 = List.replicate L.length 0 from rfl, zero_ints, show 2 * ((0 : Nat) : Int) + 1 = 1 from rfl] at lo
     rcases first_bad (chB L) L.length with k | ⟨i, k1, k2, k3⟩
     ·have lo2 := shaped_nodes_ok (I := I) (c := c) L hl k
      unfold chkst at lo2
      rw [hM2] at lo2
      rw [show shB L = true by unfold shB rtB; simp [q1, q2, q3, hM2]; exact ⟨by simpa using h, k⟩]
      exact sp_run (nt := 195) 1000 [pk (sl_ix 22 46 9 ((L).map (rowT c)) 0 0 ((rowT c) (tat L 0)) (tat_row h00)), pk (bF_neq 3 ((tat L 0).par) (-1)), pk (d_neq (dcn (tat L 0)) (0, 0, false) false (decide_eq_true q2)), pk (sl_ln 22 46 3 9 ((L).map (rowT c)) ((L).length : Int)), pk (b_rem 3 ((L).length : Int) 2 (by omega)), pk (b_eql 3 ((((L).length : Int)).tmod 2) 0 false (decide_eq_false (by rw [Int.tmod_eq_emod_of_nonneg (by omega)]; omega))), pk (sl_ln 22 46 3 9 ((L).map (rowT c)) ((L).length : Int)), ⟨.mk ((L).length : Int) L.length 8, ⟨rfl, by omega, by simp [maxLen]; omega⟩⟩, ⟨.mk ((L).length : Int) L.length 8, ⟨rfl, by omega, by simp [maxLen]; omega⟩⟩, pk (sl_ln 22 46 3 9 ((L).map (rowT c)) ((L).length : Int)), ⟨.mk ((L).length : Int) L.length 8, ⟨rfl, by omega, by simp [maxLen]; omega⟩⟩, ⟨.mk ((L).length : Int) L.length 8, ⟨rfl, by omega, by simp [maxLen]; omega⟩⟩, pl (lo), pk (sl_ln 22 46 3 9 ((L).map (rowT c)) ((L).length : Int)), pl (lo2)] (by kernel_rfl)
     ·have lo2 := shaped_nodes_bad (I := I) (c := c) L hl i k1 k2 k3
      unfold chkst at lo2
      rw [hM2] at lo2
      rw [show shB L = false by unfold shB; simp only [Bool.and_eq_false_iff]; right; rw [List.all_eq_false]; exact ⟨i, List.mem_range.2 k1, by simp [k3]⟩]
      exact sp_run (nt := 195) 1000 [pk (sl_ix 22 46 9 ((L).map (rowT c)) 0 0 ((rowT c) (tat L 0)) (tat_row h00)), pk (bF_neq 3 ((tat L 0).par) (-1)), pk (d_neq (dcn (tat L 0)) (0, 0, false) false (decide_eq_true q2)), pk (sl_ln 22 46 3 9 ((L).map (rowT c)) ((L).length : Int)), pk (b_rem 3 ((L).length : Int) 2 (by omega)), pk (b_eql 3 ((((L).length : Int)).tmod 2) 0 false (decide_eq_false (by rw [Int.tmod_eq_emod_of_nonneg (by omega)]; omega))), pk (sl_ln 22 46 3 9 ((L).map (rowT c)) ((L).length : Int)), ⟨.mk ((L).length : Int) L.length 8, ⟨rfl, by omega, by simp [maxLen]; omega⟩⟩, ⟨.mk ((L).length : Int) L.length 8, ⟨rfl, by omega, by simp [maxLen]; omega⟩⟩, pk (sl_ln 22 46 3 9 ((L).map (rowT c)) ((L).length : Int)), ⟨.mk ((L).length : Int) L.length 8, ⟨rfl, by omega, by simp [maxLen]; omega⟩⟩, ⟨.mk ((L).length : Int) L.length 8, ⟨rfl, by omega, by simp [maxLen]; omega⟩⟩, pl (lo), pk (sl_ln 22 46 3 9 ((L).map (rowT c)) ((L).length : Int)), pl (lo2)] (by kernel_rfl)
    ·have lo := shaped_pairs_bad (I := I) (c := c) L f z i (by omega) hl h2 h3
     unfold shpst at lo
     rw [show dlt L 0 = List.replicate L.length 0 from rfl, show clt L 0 = List.replicate L.length 0 from rfl, zero_ints, show 2 * ((0 : Nat) : Int) + 1 = 1 from rfl] at lo
     rw [show shB L = false by unfold shB; simp only [Bool.and_eq_false_iff]; left; right; rw [List.all_eq_false]; exact ⟨i, List.mem_range.2 (by omega), by simpa using h3⟩]
     exact sp_run (nt := 195) 1000 [pk (sl_ix 22 46 9 ((L).map (rowT c)) 0 0 ((rowT c) (tat L 0)) (tat_row h00)), pk (bF_neq 3 ((tat L 0).par) (-1)), pk (d_neq (dcn (tat L 0)) (0, 0, false) false (decide_eq_true q2)), pk (sl_ln 22 46 3 9 ((L).map (rowT c)) ((L).length : Int)), pk (b_rem 3 ((L).length : Int) 2 (by omega)), pk (b_eql 3 ((((L).length : Int)).tmod 2) 0 false (decide_eq_false (by rw [Int.tmod_eq_emod_of_nonneg (by omega)]; omega))), pk (sl_ln 22 46 3 9 ((L).map (rowT c)) ((L).length : Int)), ⟨.mk ((L).length : Int) L.length 8, ⟨rfl, by omega, by simp [maxLen]; omega⟩⟩, ⟨.mk ((L).length : Int) L.length 8, ⟨rfl, by omega, by simp [maxLen]; omega⟩⟩, pk (sl_ln 22 46 3 9 ((L).map (rowT c)) ((L).length : Int)), ⟨.mk ((L).length : Int) L.length 8, ⟨rfl, by omega, by simp [maxLen]; omega⟩⟩, ⟨.mk ((L).length : Int) L.length 8, ⟨rfl, by omega, by simp [maxLen]; omega⟩⟩, pl (lo)] (by kernel_rfl)
   ·rw [show shB L = false by unfold shB rtB; simp [q3]]
    exact sp_run (nt := 195) 1000 [pk (sl_ix 22 46 9 ((L).map (rowT c)) 0 0 ((rowT c) (tat L 0)) (tat_row h00)), pk (bF_neq 3 ((tat L 0).par) (-1)), pk (d_neq (dcn (tat L 0)) (0, 0, false) false (decide_eq_true q2)), pk (sl_ln 22 46 3 9 ((L).map (rowT c)) ((L).length : Int)), pk (b_rem 3 ((L).length : Int) 2 (by omega)), pk (b_eql 3 ((((L).length : Int)).tmod 2) 0 true (decide_eq_true (by rw [Int.tmod_eq_emod_of_nonneg (by omega)]; omega)))] (by kernel_rfl)
  ·rw [show shB L = false by unfold shB rtB; simp [q2]]
   exact sp_run (nt := 195) 1000 [pk (sl_ix 22 46 9 ((L).map (rowT c)) 0 0 ((rowT c) (tat L 0)) (tat_row h00)), pk (bF_neq 3 ((tat L 0).par) (-1)), pk (d_neq (dcn (tat L 0)) (0, 0, false) true (decide_eq_false q2))] (by kernel_rfl)
 ·rw [show shB L = false by unfold shB rtB; simp [q1]]
  exact sp_run (nt := 195) 1000 [pk (sl_ix 22 46 9 ((L).map (rowT c)) 0 0 ((rowT c) (tat L 0)) (tat_row h00)), pk (bT_neq 3 ((tat L 0).par) (-1))] (by kernel_rfl)
end
end Go.Proofs.Ytflajoflpkboiaa

/- Validate of the program. -/
namespace Go.Proofs.Ytflajoflpkboiaa
open Go Go.RowKit
set_option linter.unusedVariables false
set_option linter.unusedSimpArgs false

/-- the flaw of a node by itself -/
def nchk (L : List Nd) (i : Nat) : Int := if (tat L i).st < 0 ∨ 2 < (tat L i).st then 5 else if okc (tat L i).q then 0 else 5
/-- the flaw of a node's state -/
def schk (L : List Nd) (f : Bool) (z : Int) (i : Nat) : Int := if (tat L i).st = 1 then 0 else if decide ((tat L i).st = 2) = setB f z (tat L i).q then 0 else 16
/-- the code of Validate -/
def tvc (L : List Nd) (f : Bool) (z : Int) : Int :=
 if L.length < 1 ∨ 2000 < L.length then 10 else if costB z = false ∨ (z ≠ 0 ∧ f = false) then 5 else if findc (nchk L) L.length 0 ≠ 0 then findc (nchk L) L.length 0 else if shB L = false then 12 else findc (schk L f z) L.length 0

def vst1 (c : Bool) (L : List Nd) (f : Bool) (z i : Int) : Go.Proofs.Ytflajoflpkboiaa.St := ⟨[(1, .cv (.one (.ptr 0 0))), (34, .cv (.one (.b (.it (slI 9 ((L).map (rowT c))))))), (35, .cv (.one (.b (.lit (.int .i64 (L.length : Int)))))), (36, .cv (.one (.b (.lit (.int .i64 i)))))], [(0, some ⟨24, none, [.b (.it (slI 9 ((L).map (rowT c)))), .b (.lit (.bool f)), .b (.lit (.int .i64 z))]⟩)], 50⟩
def vst2 (c : Bool) (L : List Nd) (f : Bool) (z i : Int) : Go.Proofs.Ytflajoflpkboiaa.St := ⟨[(1, .cv (.one (.ptr 0 0))), (61, .cv (.one (.b (.it (slI 9 ((L).map (rowT c))))))), (62, .cv (.one (.b (.lit (.int .i64 (L.length : Int)))))), (63, .cv (.one (.b (.lit (.int .i64 i)))))], [(0, some ⟨24, none, [.b (.it (slI 9 ((L).map (rowT c)))), .b (.lit (.bool f)), .b (.lit (.int .i64 z))]⟩)], 50⟩
section
variable {I : WInv} {c : Bool}
theorem val_round1 (L : List Nd) (f : Bool) (z : Int) (hl : L.length ≤ 2000) (i : Nat) (hi : i < L.length) :
  (nchk L i = 0 → Rnd Try.prog I 80 (loopC Try.prog 8 0) (vst1 c L f z (i : Int)) .normal (vst1 c L f z ((i + 1 : Nat) : Int))) ∧ (nchk L i ≠ 0 → Rnd Try.prog I 80 (loopC Try.prog 8 0) (vst1 c L f z (i : Int)) .ret ⟨[(2, li 5)], [], 50⟩) := by
 by_cases h1 : (tat L i).st < 0
 ·refine ⟨fun h => absurd h (by unfold nchk; rw [if_pos (.inl h1)]; decide), fun _ => ?_⟩
  exact rnd_run 1000 [pk (bT_lss 3 (i : Int) (L.length : Int)), pk (sl_ix 22 46 9 ((L).map (rowT c)) i (i : Int) ((rowT c) (tat L i)) (tat_row hi)), pk (bT_lss 3 ((tat L i).st) 0)] (by kernel_rfl)
 ·by_cases h2 : 2 < (tat L i).st
  ·refine ⟨fun h => absurd h (by unfold nchk; rw [if_pos (.inr h2)]; decide), fun _ => ?_⟩
   exact rnd_run 1000 [pk (bT_lss 3 (i : Int) (L.length : Int)), pk (sl_ix 22 46 9 ((L).map (rowT c)) i (i : Int) ((rowT c) (tat L i)) (tat_row hi)), pk (bF_lss 3 ((tat L i).st) 0), pk (bT_gtr 3 ((tat L i).st) 2)] (by kernel_rfl)
  ·cases h3 : okc (tat L i).q with
   | false =>
    have e := cie_no h3
    refine ⟨fun h => absurd h (by unfold nchk; rw [if_neg (by omega), h3]; decide), fun _ => ?_⟩
    exact rnd_run 1000 [pk (bT_lss 3 (i : Int) (L.length : Int)), pk (sl_ix 22 46 9 ((L).map (rowT c)) i (i : Int) ((rowT c) (tat L i)) (tat_row hi)), pk (bF_lss 3 ((tat L i).st) 0), pk (bF_gtr 3 ((tat L i).st) 2), po (ceilInt_sp (I := I) (c := c) (p := (tat L i).q)), pk (bT_neq 32 (cie ((tat L i).q)) 0)] (by kernel_rfl)
   | true =>
    have e := cie_ok h3
    refine ⟨fun _ => ?_, fun h => absurd (show nchk L i = 0 by unfold nchk; rw [if_neg (by omega), h3]; rfl) h⟩
    exact rnd_run 1000 [pk (bT_lss 3 (i : Int) (L.length : Int)), pk (sl_ix 22 46 9 ((L).map (rowT c)) i (i : Int) ((rowT c) (tat L i)) (tat_row hi)), pk (bF_lss 3 ((tat L i).st) 0), pk (bF_gtr 3 ((tat L i).st) 2), po (ceilInt_sp (I := I) (c := c) (p := (tat L i).q)), pk (bF_neq 32 (cie ((tat L i).q)) 0), pk (b_add 3 (i : Int) 1 ⟨by omega, by omega⟩)] (by kernel_rfl)
theorem val_round2 (L : List Nd) (f : Bool) (z : Int) (hl : L.length ≤ 2000) (i : Nat) (hi : i < L.length) :
  (schk L f z i = 0 → Rnd Try.prog I 80 (loopC Try.prog 8 1) (vst2 c L f z (i : Int)) .normal (vst2 c L f z ((i + 1 : Nat) : Int))) ∧ (schk L f z i ≠ 0 → Rnd Try.prog I 80 (loopC Try.prog 8 1) (vst2 c L f z (i : Int)) .ret ⟨[(2, li 16)], [], 50⟩) := by
 have hset := settled_sp (I := I) (c := c) L f z c (tat L i)
 by_cases h1 : (tat L i).st = 1
 ·refine ⟨fun _ => ?_, fun h => absurd (show schk L f z i = 0 by unfold schk; rw [if_pos h1]) h⟩
  exact rnd_run 1000 [pk (bT_lss 3 (i : Int) (L.length : Int)), pk (sl_ix 22 46 9 ((L).map (rowT c)) i (i : Int) ((rowT c) (tat L i)) (tat_row hi)), pk (bF_neq 3 ((tat L i).st) 1), pk (b_add 3 (i : Int) 1 ⟨by omega, by omega⟩)] (by kernel_rfl)
 ·cases hs : setB f z (tat L i).q with
  | false =>
   rw [hs] at hset
   by_cases h2 : (tat L i).st = 2
   ·refine ⟨fun h => absurd h (by unfold schk; rw [if_neg h1, hs]; simp [h2]), fun _ => ?_⟩
    exact rnd_run 1000 [pk (bT_lss 3 (i : Int) (L.length : Int)), pk (sl_ix 22 46 9 ((L).map (rowT c)) i (i : Int) ((rowT c) (tat L i)) (tat_row hi)), pk (bT_neq 3 ((tat L i).st) 1), pk (bT_eql 3 ((tat L i).st) 2), po (hset), pa] (by kernel_rfl)
   ·refine ⟨fun _ => ?_, fun h => absurd (show schk L f z i = 0 by unfold schk; rw [if_neg h1, hs]; simp [h2]) h⟩
    exact rnd_run 1000 [pk (bT_lss 3 (i : Int) (L.length : Int)), pk (sl_ix 22 46 9 ((L).map (rowT c)) i (i : Int) ((rowT c) (tat L i)) (tat_row hi)), pk (bT_neq 3 ((tat L i).st) 1), pk (bF_eql 3 ((tat L i).st) 2), po (hset), pa, pk (b_add 3 (i : Int) 1 ⟨by omega, by omega⟩)] (by kernel_rfl)
  | true =>
   rw [hs] at hset
   by_cases h2 : (tat L i).st = 2
   ·refine ⟨fun _ => ?_, fun h => absurd (show schk L f z i = 0 by unfold schk; rw [if_neg h1, hs]; simp [h2]) h⟩
    exact rnd_run 1000 [pk (bT_lss 3 (i : Int) (L.length : Int)), pk (sl_ix 22 46 9 ((L).map (rowT c)) i (i : Int) ((rowT c) (tat L i)) (tat_row hi)), pk (bT_neq 3 ((tat L i).st) 1), pk (bT_eql 3 ((tat L i).st) 2), po (hset), pa, pk (b_add 3 (i : Int) 1 ⟨by omega, by omega⟩)] (by kernel_rfl)
   ·refine ⟨fun h => absurd h (by unfold schk; rw [if_neg h1, hs]; simp [h2]), fun _ => ?_⟩
    exact rnd_run 1000 [pk (bT_lss 3 (i : Int) (L.length : Int)), pk (sl_ix 22 46 9 ((L).map (rowT c)) i (i : Int) ((rowT c) (tat L i)) (tat_row hi)), pk (bT_neq 3 ((tat L i).st) 1), pk (bF_eql 3 ((tat L i).st) 2), po (hset), pa] (by kernel_rfl)
theorem nchk_5 {L : List Nd} {i : Nat} (h : nchk L i ≠ 0) : nchk L i = 5 := by
 unfold nchk at h ⊢
 split
 ·rfl
 ·rename_i h1
  rw [if_neg h1] at h
  split
  ·rename_i h2; rw [if_pos h2] at h; exact absurd rfl h
  ·rfl
theorem schk_16 {L : List Nd} {f : Bool} {z : Int} {i : Nat} (h : schk L f z i ≠ 0) : schk L f z i = 16 := by
 unfold schk at h ⊢
 split
 ·rename_i h1; rw [if_pos h1] at h; exact absurd rfl h
 ·rename_i h1
  rw [if_neg h1] at h
  split
  ·rename_i h2; rw [if_pos h2] at h; exact absurd rfl h
  ·rfl

theorem tvalidate_sp (L : List Nd) (f : Bool) (z : Int) (hl : L.length ≤ 1000000000) : Sp Try.prog I 8 [trT c L f z] (li (tvc L f z)) := by
 unfold tvc
 by_cases h1 : L.length < 1
 ·rw [if_pos (.inl h1)]
  exact sp_run (nt := 80) 1000 [pk (sl_ln 22 46 3 9 ((L).map (rowT c)) ((L).length : Int)), pk (bT_lss 3 ((L).length : Int) 1)] (by kernel_rfl)
 ·by_cases h2 : 2000 < L.length
  ·rw [if_pos (.inr h2)]
   exact sp_run (nt := 80) 1000 [pk (sl_ln 22 46 3 9 ((L).map (rowT c)) ((L).length : Int)), pk (bF_lss 3 ((L).length : Int) 1), pk (sl_ln 22 46 3 9 ((L).map (rowT c)) ((L).length : Int)), pk (bT_gtr 3 ((L).length : Int) 2000)] (by kernel_rfl)
  ·rw [if_neg (by omega)]
   have hc := cost_sp (I := I) z
   have l1 := loop_find (P := Try.prog) (I := I) (nt := 80) (c := loopC Try.prog 8 0) (e := 0) (b0 := ⟨[(1, .cv (.one (.ptr 0 0)))], [(0, some ⟨24, none, [.b (.it (slI 9 ((L).map (rowT c)))), .b (.lit (.bool f)), .b (.lit (.int .i64 z))]⟩)], 50⟩) (nchk L) L.length (fun i => vst1 c L f z i) (fun r => ⟨[(2, li r)], [], 50⟩) (fun i hi hc => (val_round1 L f z (by omega) i hi).1 hc) (by
    exact rnd_run 1000 [pk (bF_lss 3 (L.length : Int) (L.length : Int))] (by kernel_rfl)) (fun i hi hc => by
    rw [nchk_5 hc]
    exact (val_round1 L f z (by omega) i hi).2 hc)
   have l2 := loop_find (P := Try.prog) (I := I) (nt := 80) (c := loopC Try.prog 8 1) (e := 2) (b0 := ⟨[], [], 50⟩) (schk L f z) L.length (fun i => vst2 c L f z i) (fun r => ⟨[(2, li r)], [], 50⟩) (fun i hi hc => (val_round2 L f z (by omega) i hi).1 hc) (by
    exact rnd_run 1000 [pk (bF_lss 3 (L.length : Int) (L.length : Int))] (by kernel_rfl)) (fun i hi hc => by
    rw [schk_16 hc]
    exact (val_round2 L f z (by omega) i hi).2 hc)
   have hs := shaped_sp (I := I) (c := c) L f z (by omega) (by omega)
   cases hcb : costB z with
   | false =>
    rw [hcb] at hc
    rw [if_pos (.inl rfl)]
    exact sp_run (nt := 80) 1000 [pk (sl_ln 22 46 3 9 ((L).map (rowT c)) ((L).length : Int)), pk (bF_lss 3 ((L).length : Int) 1), pk (sl_ln 22 46 3 9 ((L).map (rowT c)) ((L).length : Int)), pk (bF_gtr 3 ((L).length : Int) 2000), po (hc), pa] (by kernel_rfl)
   | true =>
    rw [hcb] at hc
    have tail : ∀ (P1 : (findc (nchk L) L.length 0 ≠ 0 → Sp Try.prog I 8 [trT c L f z] (li (findc (nchk L) L.length 0)))) (P2 : findc (nchk L) L.length 0 = 0 → shB L = false → Sp Try.prog I 8 [trT c L f z] (li 12)) (P3 : findc (nchk L) L.length 0 = 0 → shB L = true → Sp Try.prog I 8 [trT c L f z] (li (findc (schk L f z) L.length 0))), Sp Try.prog I 8 [trT c L f z] (li (if findc (nchk L) L.length 0 ≠ 0 then findc (nchk L) L.length 0 else if shB L = false then 12 else findc (schk L f z) L.length 0)) := by
     intro P1 P2 P3
     by_cases h5 : findc (nchk L) L.length 0 = 0
     ·rw [if_neg (fun h => h h5)]
      cases h6 : shB L with
      | false => rw [if_pos rfl]; exact P2 h5 h6
      | true => rw [if_neg (by decide)]; exact P3 h5 h6
     ·rw [if_pos h5]; exact P1 h5
    by_cases hz : z = 0
    ·rw [if_neg (by simp [hz])]
     refine tail (fun h5 => ?_) (fun h5 h6 => ?_) (fun h5 h6 => ?_)
     ·have lo := l1.2 h5
      generalize findc (nchk L) L.length 0 = r at *
      exact sp_run (nt := 80) 1000 [pk (sl_ln 22 46 3 9 ((L).map (rowT c)) ((L).length : Int)), pk (bF_lss 3 ((L).length : Int) 1), pk (sl_ln 22 46 3 9 ((L).map (rowT c)) ((L).length : Int)), pk (bF_gtr 3 ((L).length : Int) 2000), po (hc), pa, pk (bF_neq 3 z 0), pk (sl_ln 22 46 3 9 ((L).map (rowT c)) ((L).length : Int)), pl (lo)] (by kernel_rfl)
     ·have lo := l1.1 h5
      rw [h6] at hs
      exact sp_run (nt := 80) 1000 [pk (sl_ln 22 46 3 9 ((L).map (rowT c)) ((L).length : Int)), pk (bF_lss 3 ((L).length : Int) 1), pk (sl_ln 22 46 3 9 ((L).map (rowT c)) ((L).length : Int)), pk (bF_gtr 3 ((L).length : Int) 2000), po (hc), pa, pk (bF_neq 3 z 0), pk (sl_ln 22 46 3 9 ((L).map (rowT c)) ((L).length : Int)), pl (lo), po (hs), pa] (by kernel_rfl)
     ·have lo := l1.1 h5
      rw [h6] at hs
      by_cases h7 : findc (schk L f z) L.length 0 = 0
      ·have lo2 := l2.1 h7
       rw [h7]
       exact sp_run (nt := 80) 1000 [pk (sl_ln 22 46 3 9 ((L).map (rowT c)) ((L).length : Int)), pk (bF_lss 3 ((L).length : Int) 1), pk (sl_ln 22 46 3 9 ((L).map (rowT c)) ((L).length : Int)), pk (bF_gtr 3 ((L).length : Int) 2000), po (hc), pa, pk (bF_neq 3 z 0), pk (sl_ln 22 46 3 9 ((L).map (rowT c)) ((L).length : Int)), pl (lo), po (hs), pa, pk (sl_ln 22 46 3 9 ((L).map (rowT c)) ((L).length : Int)), pl (lo2)] (by kernel_rfl)
      ·have lo2 := l2.2 h7
       generalize findc (schk L f z) L.length 0 = r at *
       exact sp_run (nt := 80) 1000 [pk (sl_ln 22 46 3 9 ((L).map (rowT c)) ((L).length : Int)), pk (bF_lss 3 ((L).length : Int) 1), pk (sl_ln 22 46 3 9 ((L).map (rowT c)) ((L).length : Int)), pk (bF_gtr 3 ((L).length : Int) 2000), po (hc), pa, pk (bF_neq 3 z 0), pk (sl_ln 22 46 3 9 ((L).map (rowT c)) ((L).length : Int)), pl (lo), po (hs), pa, pk (sl_ln 22 46 3 9 ((L).map (rowT c)) ((L).length : Int)), pl (lo2)] (by kernel_rfl)
    ·cases f with
     | false =>
      rw [if_pos (.inr ⟨hz, rfl⟩)]
      exact sp_run (nt := 80) 1000 [pk (sl_ln 22 46 3 9 ((L).map (rowT c)) ((L).length : Int)), pk (bF_lss 3 ((L).length : Int) 1), pk (sl_ln 22 46 3 9 ((L).map (rowT c)) ((L).length : Int)), pk (bF_gtr 3 ((L).length : Int) 2000), po (hc), pa, pk (bT_neq 3 z 0), pa] (by kernel_rfl)
     | true =>
      rw [if_neg (by simp)]
      refine tail (fun h5 => ?_) (fun h5 h6 => ?_) (fun h5 h6 => ?_)
      ·have lo := l1.2 h5
       generalize findc (nchk L) L.length 0 = r at *
       exact sp_run (nt := 80) 1000 [pk (sl_ln 22 46 3 9 ((L).map (rowT c)) ((L).length : Int)), pk (bF_lss 3 ((L).length : Int) 1), pk (sl_ln 22 46 3 9 ((L).map (rowT c)) ((L).length : Int)), pk (bF_gtr 3 ((L).length : Int) 2000), po (hc), pa, pk (bT_neq 3 z 0), pa, pk (sl_ln 22 46 3 9 ((L).map (rowT c)) ((L).length : Int)), pl (lo)] (by kernel_rfl)
      ·have lo := l1.1 h5
       rw [h6] at hs
       exact sp_run (nt := 80) 1000 [pk (sl_ln 22 46 3 9 ((L).map (rowT c)) ((L).length : Int)), pk (bF_lss 3 ((L).length : Int) 1), pk (sl_ln 22 46 3 9 ((L).map (rowT c)) ((L).length : Int)), pk (bF_gtr 3 ((L).length : Int) 2000), po (hc), pa, pk (bT_neq 3 z 0), pa, pk (sl_ln 22 46 3 9 ((L).map (rowT c)) ((L).length : Int)), pl (lo), po (hs), pa] (by kernel_rfl)
      ·have lo := l1.1 h5
       rw [h6] at hs
       by_cases h7 : findc (schk L true z) L.length 0 = 0
       ·have lo2 := l2.1 h7
        rw [h7]
        exact sp_run (nt := 80) 1000 [pk (sl_ln 22 46 3 9 ((L).map (rowT c)) ((L).length : Int)), pk (bF_lss 3 ((L).length : Int) 1), pk (sl_ln 22 46 3 9 ((L).map (rowT c)) ((L).length : Int)), pk (bF_gtr 3 ((L).length : Int) 2000), po (hc), pa, pk (bT_neq 3 z 0), pa, pk (sl_ln 22 46 3 9 ((L).map (rowT c)) ((L).length : Int)), pl (lo), po (hs), pa, pk (sl_ln 22 46 3 9 ((L).map (rowT c)) ((L).length : Int)), pl (lo2)] (by kernel_rfl)
       ·have lo2 := l2.2 h7
        generalize findc (schk L true z) L.length 0 = r at *
        exact sp_run (nt := 80) 1000 [pk (sl_ln 22 46 3 9 ((L).map (rowT c)) ((L).length : Int)), pk (bF_lss 3 ((L).length : Int) 1), pk (sl_ln 22 46 3 9 ((L).map (rowT c)) ((L).length : Int)), pk (bF_gtr 3 ((L).length : Int) 2000), po (hc), pa, pk (bT_neq 3 z 0), pa, pk (sl_ln 22 46 3 9 ((L).map (rowT c)) ((L).length : Int)), pl (lo), po (hs), pa, pk (sl_ln 22 46 3 9 ((L).map (rowT c)) ((L).length : Int)), pl (lo2)] (by kernel_rfl)
end
end Go.Proofs.Ytflajoflpkboiaa

/- Decisions, Next of the program. -/
namespace Go.Proofs.Ytflajoflpkboiaa
open Go Go.RowKit
set_option linter.unusedVariables false
set_option linter.unusedSimpArgs false

theorem tvc_ok {L : List Nd} {f : Bool} {z : Int} (h : tvc L f z = 0) : 1 ≤ L.length ∧ L.length ≤ 2000 ∧ costB z = true ∧ (z = 0 ∨ f = true) ∧ findc (nchk L) L.length 0 = 0 ∧ shB L = true ∧ findc (schk L f z) L.length 0 = 0 := by
 unfold tvc at h
 by_cases h1 : L.length < 1 ∨ 2000 < L.length
 ·rw [if_pos h1] at h; omega
 ·rw [if_neg h1] at h
  by_cases h2 : costB z = false ∨ (z ≠ 0 ∧ f = false)
  ·rw [if_pos h2] at h; omega
  ·rw [if_neg h2] at h
   by_cases h3 : findc (nchk L) L.length 0 ≠ 0
   ·rw [if_pos h3] at h; exact absurd h h3
   ·rw [if_neg h3] at h
    by_cases h4 : shB L = false
    ·rw [if_pos h4] at h; omega
    ·rw [if_neg h4] at h
     refine ⟨by omega, by omega, ?_, ?_, by omega, by simpa using h4, h⟩
     ·cases hc : costB z with
      | true => rfl
      | false => exact absurd (.inl hc) h2
     ·by_cases hz : z = 0
      ·exact .inl hz
      ·cases f with
       | true => exact .inr rfl
       | false => exact absurd (.inr ⟨hz, rfl⟩) h2
theorem shB_dn {L : List Nd} (h : shB L = true) : L.length % 2 = 1 ∧ Dn L (L.length - 1) := by
 unfold shB rtB at h
 simp only [Bool.and_eq_true, List.all_eq_true, List.mem_range, decide_eq_true_eq] at h
 obtain ⟨⟨⟨_, h1⟩, h2⟩, _⟩ := h
 refine ⟨h1, ?_⟩
 have := dn_prs (L := L) (m := L.length / 2) fun x hx => (h2 x hx).1
 rw [show L.length - 1 = 2 * (L.length / 2) by omega]
 exact this
section
variable {I : WInv} {c : Bool}

theorem decisions_sp (L : List Nd) (f : Bool) (z : Int) (i : Nat) (h : tvc L f z = 0) (hi : i < L.length) : Sp Try.prog I 7 [trT c L f z, ci (i : Int)] (.tu [.one (.b (.it (deI (pathD L i)))), ci 0]) := by
 obtain ⟨h1, h2, _, _, _, h6, _⟩ := tvc_ok h
 have hD := (shB_dn h6).2
 have va := tvalidate_sp (I := I) (c := c) L f z (by omega)
 rw [h] at va
 have hpat := path_sp (I := I) (c := c) L f z i (fun x h0 hx => hD x h0 (by omega)) hi (by omega)
 exact sp_run (nt := 24) 1000 [po (va), pa, pk (bF_lss 3 (i : Int) 0), pk (sl_ln 22 46 3 9 ((L).map (rowT c)) ((L).length : Int)), pk (bF_geq 3 (i : Int) ((L).length : Int)), po (hpat)] (by kernel_rfl)
theorem decisions_range (L : List Nd) (f : Bool) (z n : Int) (h : tvc L f z = 0) (hn : n < 0 ∨ (L.length : Int) ≤ n) : Sp Try.prog I 7 [trT c L f z, ci n] (.tu [.one (.b (.lit (.slice none 0 0))), ci 5]) := by
 obtain ⟨h1, h2, _⟩ := tvc_ok h
 have va := tvalidate_sp (I := I) (c := c) L f z (by omega)
 rw [h] at va
 by_cases h0 : n < 0
 ·exact sp_run (nt := 24) 1000 [po (va), pa, pk (bT_lss 3 n 0)] (by kernel_rfl)
 ·exact sp_run (nt := 24) 1000 [po (va), pa, pk (bF_lss 3 n 0), pk (sl_ln 22 46 3 9 ((L).map (rowT c)) ((L).length : Int)), pk (bT_geq 3 n ((L).length : Int))] (by kernel_rfl)
theorem decisions_err (L : List Nd) (f : Bool) (z n : Int) (hl : L.length ≤ 1000000000) (h : tvc L f z ≠ 0) : Sp Try.prog I 7 [trT c L f z, ci n] (.tu [.one (.b (.lit (.slice none 0 0))), ci (tvc L f z)]) := by
 have va := tvalidate_sp (I := I) (c := c) L f z hl
 generalize tvc L f z = r at *
 exact sp_run (nt := 24) 1000 [po (va), pk (bT_neq 32 r 0)] (by kernel_rfl)
/-- the best open node among the first i, or -1 -/
def nxI (L : List Nd) : Nat → Int
 | 0 => -1
 | i + 1 => if (tat L i).st = 0 ∧ (nxI L i < 0 ∨ (tat L i).q < (tat L (nxI L i).toNat).q) then (i : Int) else nxI L i
theorem nxI_le (L : List Nd) : ∀ i, -1 ≤ nxI L i ∧ nxI L i < (i : Int)
 | 0 => by rw [nxI]; omega
 | i + 1 => by
  have := nxI_le L i
  rw [nxI]
  split <;> omega

def nexst (c : Bool) (L : List Nd) (f : Bool) (z i b : Int) : Go.Proofs.Ytflajoflpkboiaa.St := ⟨[(1, .cv (.one (.ptr 0 0))), (4, .cv (.one (.b (.lit (.int .i64 b))))), (11, .cv (.one (.b (.it (slI 9 ((L).map (rowT c))))))), (12, .cv (.one (.b (.lit (.int .i64 (L.length : Int)))))), (13, .cv (.one (.b (.lit (.int .i64 i)))))], [(0, some ⟨24, none, [.b (.it (slI 9 ((L).map (rowT c)))), .b (.lit (.bool f)), .b (.lit (.int .i64 z))]⟩)], 50⟩
theorem next_round (L : List Nd) (f : Bool) (z : Int) (hl : L.length ≤ 2000) (i : Nat) (hi : i < L.length) : Rnd Try.prog I 43 (loopC Try.prog 20 0) (nexst c L f z (i : Int) (nxI L i)) .normal (nexst c L f z ((i + 1 : Nat) : Int) (nxI L (i + 1))) := by
 have hb0 := nxI_le L i
 rw [nxI]
 by_cases h1 : (tat L i).st = 0
 ·by_cases h2 : nxI L i < 0
  ·rw [if_pos ⟨h1, .inl h2⟩]
   exact rnd_run 1000 [pk (bT_lss 3 (i : Int) (L.length : Int)), pk (sl_ix 22 46 9 ((L).map (rowT c)) i (i : Int) ((rowT c) (tat L i)) (tat_row hi)), pk (bT_eql 3 ((tat L i).st) 0), pk (bT_lss 3 (nxI L i) 0), pk (b_add 3 (i : Int) 1 ⟨by omega, by omega⟩)] (by kernel_rfl)
  ·have hb : (nxI L i).toNat < L.length := by omega
   by_cases h3 : (tat L i).q < (tat L (nxI L i).toNat).q
   ·rw [if_pos ⟨h1, .inr h3⟩]
    exact rnd_run 1000 [pk (bT_lss 3 (i : Int) (L.length : Int)), pk (sl_ix 22 46 9 ((L).map (rowT c)) i (i : Int) ((rowT c) (tat L i)) (tat_row hi)), pk (bT_eql 3 ((tat L i).st) 0), pk (bF_lss 3 (nxI L i) 0), pk (sl_ix 22 46 9 ((L).map (rowT c)) ((nxI L i).toNat) (nxI L i) ((rowT c) (tat L ((nxI L i).toNat))) (tat_row hb)), po (cmpF (I := I) (c := c) (c' := c) (k := 12) (j := 12) (p := (tat L i).q) (q := (tat L ((nxI L i).toNat)).q) (r := cmpq ((tat L i).q) ((tat L ((nxI L i).toNat)).q)) rfl (by omega)), pk (b_lss 3 (cmpq ((tat L i).q) ((tat L ((nxI L i).toNat)).q)) 0 true (cmpq_ltA (by grind))), pk (b_add 3 (i : Int) 1 ⟨by omega, by omega⟩)] (by kernel_rfl)
   ·rw [if_neg (by rintro ⟨_, h | h⟩ <;> contradiction)]
    exact rnd_run 1000 [pk (bT_lss 3 (i : Int) (L.length : Int)), pk (sl_ix 22 46 9 ((L).map (rowT c)) i (i : Int) ((rowT c) (tat L i)) (tat_row hi)), pk (bT_eql 3 ((tat L i).st) 0), pk (bF_lss 3 (nxI L i) 0), pk (sl_ix 22 46 9 ((L).map (rowT c)) ((nxI L i).toNat) (nxI L i) ((rowT c) (tat L ((nxI L i).toNat))) (tat_row hb)), po (cmpF (I := I) (c := c) (c' := c) (k := 12) (j := 12) (p := (tat L i).q) (q := (tat L ((nxI L i).toNat)).q) (r := cmpq ((tat L i).q) ((tat L ((nxI L i).toNat)).q)) rfl (by omega)), pk (b_lss 3 (cmpq ((tat L i).q) ((tat L ((nxI L i).toNat)).q)) 0 false (cmpq_nltA (by grind))), pk (b_add 3 (i : Int) 1 ⟨by omega, by omega⟩)] (by kernel_rfl)
 ·rw [if_neg (fun h => h1 h.1)]
  exact rnd_run 1000 [pk (bT_lss 3 (i : Int) (L.length : Int)), pk (sl_ix 22 46 9 ((L).map (rowT c)) i (i : Int) ((rowT c) (tat L i)) (tat_row hi)), pk (bF_eql 3 ((tat L i).st) 0), pk (b_add 3 (i : Int) 1 ⟨by omega, by omega⟩)] (by kernel_rfl)
theorem max0 (ts : Array TypeId) (t : TypeId) (x r : Int) (h : max x 0 = r) : OpOb Try.prog (.max ts t) [li x, li 0] (li r) := op_lit (vs := [.int .i64 x, .int .i64 0]) fun w => by
 subst h
 show ((Builtin.max2 (.int .i64 x) (.int .i64 0) >>= fun v => pure v).run Try.prog w) = _
 simp only [Builtin.max2]
 by_cases hx : x < 0
 ·simp [hx]; omega
 ·simp [hx]; omega
theorem tnext_sp (L : List Nd) (f : Bool) (z : Int) (h : tvc L f z = 0) : Sp Try.prog I 20 [trT c L f z] (.tu [ci (max (nxI L L.length) 0), .one (.b (.lit (.bool (decide (nxI L L.length ≥ 0)))))]) := by
 obtain ⟨h1, h2, _⟩ := tvc_ok h
 have va := tvalidate_sp (I := I) (c := c) L f z (by omega)
 rw [h] at va
 have lo : LoopTr Try.prog I 43 (loopC Try.prog 20 0) (nexst c L f z ((0 : Nat) : Int) (nxI L 0)) (.exit 0) ⟨[(4, .cv (.one (.b (.lit (.int .i64 (nxI L L.length))))))], [], 50⟩ := loop_up (by simp) (fun i => nexst c L f z (i : Int) (nxI L i)) L.length (fun i hi => next_round L f z (by omega) i hi) (by
  exact rnd_run 1000 [pk (bF_lss 3 (L.length : Int) (L.length : Int))] (by kernel_rfl))
 generalize nxI L L.length = b at *
 exact sp_run (nt := 43) 1000 [po (va), pa, pk (sl_ln 22 46 3 9 ((L).map (rowT c)) ((L).length : Int)), pl (lo), pk (max0 #[3, 3] 3 b (max b 0) rfl), pk (b_geq 3 b 0 (decide (b ≥ 0)) rfl)] (by kernel_rfl)
theorem tnext_err (L : List Nd) (f : Bool) (z : Int) (hl : L.length ≤ 1000000000) (h : tvc L f z ≠ 0) : Sp Try.prog I 20 [trT c L f z] (.tu [ci 0, .one (.b (.lit (.bool false)))]) := by
 have va := tvalidate_sp (I := I) (c := c) L f z hl
 generalize tvc L f z = r at *
 exact sp_run (nt := 43) 1000 [po (va), pk (bT_neq 32 r 0)] (by kernel_rfl)
theorem lq_int' {z : Int} (hz : costB z = true) : Lq (z : Rat) 12 := Lq.int (Lim.mono (lim64 (by unfold costB at hz; simp at hz; omega)) (by omega)) (by omega)
theorem int_div1 (a : Int) : Rat.divInt a 1 = (a : Rat) := by rw [Rat.divInt_eq_div, Rat.intCast_one, Rat.div_def]; grind
theorem fromInts12 {z : Int} (hz : costB z = true) : Sp Try.prog I 38 [ci z, ci 1] (.tu [fc true 12 (z : Rat), ci 0]) := by
 have h := fromInts_sp (I := I) (a := z) (b := 1) (by unfold costB at hz; simp at hz; omega) (by omega) (by omega)
 rw [int_div1] at h
 exact h.rs (tu_le ⟨frc_fc (lq_int' hz), CTle.refl, trivial⟩)
/-- the bound after the first i nodes, out of what there was at first -/
def bdO (L : List Nd) (o : Option Rat) : Nat → Option Rat
 | 0 => o
 | i + 1 => match bdO L o i with
  | none => if (tat L i).st = 0 then some (tat L i).q else none
  | some b => if (tat L i).st = 0 ∧ (tat L i).q < b then some (tat L i).q else some b

def bdst (c : Bool) (L : List Nd) (o : Option Rat) (i : Int) : Go.Proofs.Ytflajoflpkboiaa.St := match o with
 | none => ⟨[(2, .cv (.one (.ptr 1 0))), (4, .cv (.one (.ptr 9 0))), (5, .cv (.one (.b (.lit (.bool false))))), (24, .cv (.one (.b (.it (slI 9 ((L).map (rowT c))))))), (25, .cv (.one (.b (.lit (.int .i64 (L.length : Int)))))), (26, .cv (.one (.b (.lit (.int .i64 i)))))], [(1, some ⟨30, none, [.b (.lit (.bool false)), .b (.lit (.slice none 0 0)), .b (.lit (.bool false)), .b (.lit (.slice none 0 0))]⟩), (9, some ⟨30, none, [.b (.lit (.bool false)), .b (.lit (.slice none 0 0)), .b (.lit (.bool false)), .b (.lit (.slice none 0 0))]⟩)], 50⟩
 | some b => ⟨[(2, .cv (.one (.ptr 1 0))), (4, .cv (.one (.ptr 9 0))), (5, .cv (.one (.b (.lit (.bool true))))), (24, .cv (.one (.b (.it (slI 9 ((L).map (rowT c))))))), (25, .cv (.one (.b (.lit (.int .i64 (L.length : Int)))))), (26, .cv (.one (.b (.lit (.int .i64 i)))))], [(1, some ⟨30, none, [.b (.lit (.bool false)), .b (.lit (.slice none 0 0)), .b (.lit (.bool false)), .b (.lit (.slice none 0 0))]⟩), (9, some ⟨30, none, [.b (.it (fF true 12 b))]⟩)], 50⟩
def bdex (o : Option Rat) : Go.Proofs.Ytflajoflpkboiaa.St := match o with
 | none => ⟨[(2, .cv (.one (.ptr 1 0))), (4, .cv (.one (.ptr 9 0))), (5, .cv (.one (.b (.lit (.bool false)))))], [(1, some ⟨30, none, [.b (.lit (.bool false)), .b (.lit (.slice none 0 0)), .b (.lit (.bool false)), .b (.lit (.slice none 0 0))]⟩), (9, some ⟨30, none, [.b (.lit (.bool false)), .b (.lit (.slice none 0 0)), .b (.lit (.bool false)), .b (.lit (.slice none 0 0))]⟩)], 50⟩
 | some b => ⟨[(2, .cv (.one (.ptr 1 0))), (4, .cv (.one (.ptr 9 0))), (5, .cv (.one (.b (.lit (.bool true)))))], [(1, some ⟨30, none, [.b (.lit (.bool false)), .b (.lit (.slice none 0 0)), .b (.lit (.bool false)), .b (.lit (.slice none 0 0))]⟩), (9, some ⟨30, none, [.b (.it (fF true 12 b))]⟩)], 50⟩
theorem bound_round (L : List Nd) (hl : L.length ≤ 2000) (o : Option Rat) (i : Nat) (hi : i < L.length) : Rnd Try.prog I 50 (loopC Try.prog 21 0) (bdst c L (bdO L o i) (i : Int)) .normal (bdst c L (bdO L o (i + 1)) ((i + 1 : Nat) : Int)) := by
 rw [bdO]
 generalize bdO L o i = o
 cases o with
 | none =>
  by_cases h1 : (tat L i).st = 0
  ·simp only [h1, if_true]
   exact rnd_run 1000 [pk (bT_lss 3 (i : Int) (L.length : Int)), pk (sl_ix 22 46 9 ((L).map (rowT c)) i (i : Int) ((rowT c) (tat L i)) (tat_row hi)), pk (b_eql 3 ((tat L i).st) 0 true (decide_eq_true h1)), pa, po (fresh_sp (I := I) (c := c) (p := (tat L i).q)), pk (b_add 3 (i : Int) 1 ⟨by omega, by omega⟩)] (by kernel_rfl)
  ·simp only [h1, if_false]
   exact rnd_run 1000 [pk (bT_lss 3 (i : Int) (L.length : Int)), pk (sl_ix 22 46 9 ((L).map (rowT c)) i (i : Int) ((rowT c) (tat L i)) (tat_row hi)), pk (b_eql 3 ((tat L i).st) 0 false (decide_eq_false h1)), pk (b_add 3 (i : Int) 1 ⟨by omega, by omega⟩)] (by kernel_rfl)
 | some b =>
  by_cases h1 : (tat L i).st = 0
  ·by_cases h2 : (tat L i).q < b
   ·simp only [h1, h2, and_self, if_true]
    exact rnd_run 1000 [pk (bT_lss 3 (i : Int) (L.length : Int)), pk (sl_ix 22 46 9 ((L).map (rowT c)) i (i : Int) ((rowT c) (tat L i)) (tat_row hi)), pk (b_eql 3 ((tat L i).st) 0 true (decide_eq_true h1)), pa, po (cmpF (I := I) (c := c) (c' := true) (k := 12) (j := 12) (p := (tat L i).q) (q := b) (r := cmpq ((tat L i).q) b) rfl (by omega)), pk (b_lss 3 (cmpq ((tat L i).q) b) 0 true (cmpq_ltA (by grind))), po (fresh_sp (I := I) (c := c) (p := (tat L i).q)), pk (b_add 3 (i : Int) 1 ⟨by omega, by omega⟩)] (by kernel_rfl)
   ·simp only [h1, h2, and_false, if_false]
    exact rnd_run 1000 [pk (bT_lss 3 (i : Int) (L.length : Int)), pk (sl_ix 22 46 9 ((L).map (rowT c)) i (i : Int) ((rowT c) (tat L i)) (tat_row hi)), pk (b_eql 3 ((tat L i).st) 0 true (decide_eq_true h1)), pa, po (cmpF (I := I) (c := c) (c' := true) (k := 12) (j := 12) (p := (tat L i).q) (q := b) (r := cmpq ((tat L i).q) b) rfl (by omega)), pk (b_lss 3 (cmpq ((tat L i).q) b) 0 false (cmpq_nltA (by grind))), pk (b_add 3 (i : Int) 1 ⟨by omega, by omega⟩)] (by kernel_rfl)
  ·simp only [h1, false_and, if_false]
   exact rnd_run 1000 [pk (bT_lss 3 (i : Int) (L.length : Int)), pk (sl_ix 22 46 9 ((L).map (rowT c)) i (i : Int) ((rowT c) (tat L i)) (tat_row hi)), pk (b_eql 3 ((tat L i).st) 0 false (decide_eq_false h1)), pk (b_add 3 (i : Int) 1 ⟨by omega, by omega⟩)] (by kernel_rfl)
theorem bound_loop (L : List Nd) (hl : L.length ≤ 2000) (o : Option Rat) : LoopTr Try.prog I 50 (loopC Try.prog 21 0) (bdst c L o ((0 : Nat) : Int)) (.exit 0) (bdex (bdO L o L.length)) :=
 loop_up (by simp) (fun i => bdst c L (bdO L o i) (i : Int)) L.length (fun i hi => bound_round L hl o i hi) (by
  generalize bdO L o L.length = o
  cases o with
  | none => exact rnd_run 1000 [pk (bF_lss 3 (L.length : Int) (L.length : Int))] (by kernel_rfl)
  | some b => exact rnd_run 1000 [pk (bF_lss 3 (L.length : Int) (L.length : Int))] (by kernel_rfl))
def bdRes : Option Rat → TV
 | none => .tu [.ag zl, .one (.b (.lit (.bool false)))]
 | some b => .tu [fc true 12 b, .one (.b (.lit (.bool true)))]
def bdI (L : List Nd) (f : Bool) (z : Int) : Option Rat := bdO L (if f then some (z : Rat) else none) L.length
theorem tbound_sp (L : List Nd) (f : Bool) (z : Int) (h : tvc L f z = 0) : Sp Try.prog I 21 [trT c L f z] (bdRes (bdI L f z)) := by
 obtain ⟨h1, h2, hc, _⟩ := tvc_ok h
 have va := tvalidate_sp (I := I) (c := c) L f z (by omega)
 rw [h] at va
 have lo := bound_loop (I := I) (c := c) L h2 (if f then some (z : Rat) else none)
 have fi := fromInts12 (I := I) hc
 unfold bdI
 cases f with
 | false =>
  simp only [Bool.false_eq_true, if_false] at lo ⊢
  generalize bdO L none L.length = o at *
  cases o with
  | none => exact sp_run (nt := 50) 1000 [po (va), pa, pk (sl_ln 22 46 3 9 ((L).map (rowT c)) ((L).length : Int)), pl (lo)] (by kernel_rfl)
  | some b => exact sp_run (nt := 50) 1000 [po (va), pa, pk (sl_ln 22 46 3 9 ((L).map (rowT c)) ((L).length : Int)), pl (lo)] (by kernel_rfl)
 | true =>
  simp only [if_true] at lo ⊢
  generalize bdO L (some (z : Rat)) L.length = o at *
  cases o with
  | none => exact sp_run (nt := 50) 1000 [po (va), pa, po (fi), pk (sl_ln 22 46 3 9 ((L).map (rowT c)) ((L).length : Int)), pl (lo)] (by kernel_rfl)
  | some b => exact sp_run (nt := 50) 1000 [po (va), pa, po (fi), pk (sl_ln 22 46 3 9 ((L).map (rowT c)) ((L).length : Int)), pl (lo)] (by kernel_rfl)
theorem tbound_err (L : List Nd) (f : Bool) (z : Int) (hl : L.length ≤ 1000000000) (h : tvc L f z ≠ 0) : Sp Try.prog I 21 [trT c L f z] (.tu [.ag zl, .one (.b (.lit (.bool false)))]) := by
 have va := tvalidate_sp (I := I) (c := c) L f z hl
 generalize tvc L f z = r at *
 exact sp_run (nt := 50) 1000 [po (va), pk (bT_neq 32 r 0)] (by kernel_rfl)
end
end Go.Proofs.Ytflajoflpkboiaa

/- Boxes under other names; names forgotten beside slices of one's own; a new slice that is handed out, given out of hand. -/
namespace Go.Proofs.Ytflajoflpkboiaa
open Go Go.RowKit
set_option linter.unusedVariables false
set_option linter.unusedSimpArgs false

def swN (k k' x : Nat) : Nat := if Nat.beq x k then k' else if Nat.beq x k' then k else x
theorem swN_eq (k k' x : Nat) : swN k k' x = if x = k then k' else if x = k' then k else x := by
 unfold swN
 by_cases h1 : x = k
 ·subst h1; simp
 ·by_cases h2 : x = k'
  ·subst h2; simp [h1]
  ·simp [h1, h2]
theorem swN_inv (k k' x : Nat) : swN k k' (swN k k' x) = x := by
 simp only [swN_eq]
 by_cases h1 : x = k
 ·subst h1
  by_cases h2 : k' = x
  ·simp [h2]
  ·simp [h2]
 ·by_cases h2 : x = k'
  ·subst h2; simp [h1]
  ·simp [h1, h2]
theorem swN_out {k k' x : Nat} (h1 : x ≠ k) (h2 : x ≠ k') : swN k k' x = x := by rw [swN_eq, if_neg h1, if_neg h2]
def swE (f : Nat → Nat) : Env → Env
 | [] => []
 | (t, v) :: r => (t, v.mapN f) :: swE f r
def swB (f : Nat → Nat) : Bxs → Bxs
 | [] => []
 | (k, some e) :: r => (f k, some (e.out f)) :: swB f r
 | (k, none) :: r => (f k, none) :: swB f r
def namT : List (Nat × Nat) → St → St
 | [], s => s
 | (k, k') :: r, s => namT r ⟨swE (swN k k') s.E, swB (swN k k') s.B, s.nx⟩
def namOk : List (Nat × Nat) → Nat → Bool
 | [], _ => true
 | (k, k') :: r, nx => Nat.ble 2 k && Nat.ble 2 k' && Nat.blt k nx && Nat.blt k' nx && namOk r nx
def pT (_ : Nat) : Bool := true
theorem It.all_pT (x : It) : x.allN pT = true := by cases x <;> rfl
theorem itsAll_pT (l : List It) : l.all (It.allN pT) = true := List.all_eq_true.2 fun x _ => It.all_pT x
theorem CT.all_pT (c : CT) : c.allN pT = true := by cases c with
 | one x => exact It.all_pT x
 | ag l => exact itsAll_pT l
theorem TV.all_pT (c : TV) : c.allN pT = true := by cases c with
 | cv x => exact CT.all_pT x
 | tu l => exact List.all_eq_true.2 fun x _ => CT.all_pT x
theorem Ent.ok_pT (e : Ent) : e.okN pT = true := by unfold Ent.okN; rw [itsAll_pT, Bool.or_true]
theorem swE_look {f : Nat → Nat} : ∀ {E : Env} {t : Nat} {v : TV}, look (swE f E) t = some v → ∃ u, look E t = some u ∧ v = u.mapN f
 | [], _, _, h => by cases h
 | (q, u) :: r, t, v, h => by
  unfold swE at h
  rw [look_cons] at h ⊢
  by_cases hq : q = t
  ·rw [if_pos hq] at h ⊢; injection h with h; exact ⟨u, rfl, h.symm⟩
  ·rw [if_neg hq] at h ⊢; exact swE_look h
theorem swB_look {f : Nat → Nat} (hf : ∀ x, f (f x) = x) : ∀ {B : Bxs} {k : Nat} {e : Ent}, lookB (swB f B) k = some e → ∃ u, lookB B (f k) = some u ∧ e = u.out f
 | [], _, _, h => by cases h
 | (q, some u) :: r, k, e, h => by
  unfold swB at h
  rw [lookB_cons] at h ⊢
  by_cases hq : f q = k
  ·rw [if_pos hq] at h; rw [if_pos (by rw [← hq, hf])]; injection h with h; exact ⟨u, rfl, h.symm⟩
  ·rw [if_neg hq] at h; rw [if_neg (fun hh => hq (by rw [hh, hf]))]; exact swB_look hf h
 | (q, none) :: r, k, e, h => by
  unfold swB at h
  rw [lookB_cons] at h ⊢
  by_cases hq : f q = k
  ·rw [if_pos hq] at h; cases h
  ·rw [if_neg hq] at h; rw [if_neg (fun hh => hq (by rw [hh, hf]))]; exact swB_look hf h
theorem NpB.sw {f : Nat → Nat} : ∀ {B : Bxs}, NpB B → NpB (swB f B)
 | [], h => h
 | (k, none) :: r, h => NpB.sw (B := r) h
 | (k, some e) :: r, h => by
  refine ⟨fun hs => ?_, NpB.sw h.2⟩
  by_cases he : e.sl.isSome = true
  ·rw [Ent.out_sl he]; exact h.1 he
  ·unfold Ent.out at hs
   rw [if_neg he] at hs
   exact absurd hs he
def ltBs (nx : Nat) : Bxs → Bool
 | [] => true
 | (k, some e) :: r => Nat.blt k nx && (e.sl.isSome || e.its.all (It.lt nx)) && ltBs nx r
 | (_, none) :: r => ltBs nx r
theorem ltBs_look {nx : Nat} : ∀ {B : Bxs} {t : Nat} {e : Ent}, ltBs nx B = true → lookB B t = some e → t < nx ∧ (e.sl.isSome || e.its.all (It.lt nx)) = true
 | [], _, _, _, h => by cases h
 | (k, some u) :: r, t, e, h, hv => by
  simp only [ltBs, Bool.and_eq_true] at h
  simp only [lookB] at hv
  split at hv
  ·rename_i hk
   injection hv with hv
   rw [← hv, ← Nat.eq_of_beq_eq_true hk]
   exact ⟨blt_lt h.1.1, h.1.2⟩
  ·exact ltBs_look h.2 hv
 | (k, none) :: r, t, e, h, hv => by
  simp only [ltBs] at h
  simp only [lookB] at hv
  split at hv
  ·cases hv
  ·exact ltBs_look h hv
theorem noPtr_lt {l : List It} (nx : Nat) (h : l.all It.noPtr = true) : l.all (It.lt nx) = true := by
 rw [List.all_eq_true] at h ⊢
 intro x hx
 have := h x hx
 cases x with
 | b _ => rfl
 | fp _ => rfl
 | ptr _ _ => cases this
 | sl _ => cases this
theorem np_app {a b : List It} (h : a.all It.noPtr = true) (h' : b.all It.noPtr = true) : (a ++ b).all It.noPtr = true := by rw [List.all_append, h, h']; rfl
section
variable {P : Program} {I : WInv} {nt : Nat}
theorem sw_leads {E : Env} {B : Bxs} {nx k k' : Nat} (hnp : NpB B) (h1 : 2 ≤ k) (h2 : 2 ≤ k') (h3 : k < nx) (h4 : k' < nx) : Leads I nt ⟨E, B, nx⟩ ⟨swE (swN k k') E, swB (swN k k') B, nx⟩ := by
 rintro N0 w0 a w ⟨N, g, q1, q2⟩
 have hinv := swN_inv k k'
 have hg : ∀ j, pT j = true → (fun x => g (swN k k' x)) (swN k k' j) = g j := fun j _ => by show g (swN k k' (swN k k' j)) = g j; rw [hinv]
 have hb : ∀ x, blkOf (fun x => g (swN k k' x)) x = blkOf g (swN k k' x) := fun x => rfl
 refine ⟨N, fun x => g (swN k k' x), { q1 with slots := ?_, boxes := ?_, inj := ?_, rig := ?_ }, ?_⟩
 ·intro t v hv
  obtain ⟨u, hu, rfl⟩ := swE_look hv
  exact TV.mapN_sem (g2 := fun x => g (swN k k' x)) (f := swN k k') hg (TV.all_pT u) (q1.slots t u hu)
 ·intro x e he
  obtain ⟨u, hu, rfl⟩ := swB_look hinv he
  have := (q1.boxes _ u hu).mapN (g2 := fun x => g (swN k k' x)) (f := swN k k') (p := pT) hg rfl (Ent.ok_pT u) (lookB_np hnp hu)
  rw [hinv] at this
  exact this
 ·intro x y e e' b r1 r2 r3 r4
  obtain ⟨u, hu, _⟩ := swB_look hinv r1
  obtain ⟨v, hv, _⟩ := swB_look hinv r2
  have := q1.inj _ _ u v b hu hv r3 r4
  rw [← hinv x, this, hinv]
 ·intro x v hv
  have := w0.lo x v hv
  show g (swN k k' x) = some v
  rw [swN_out (by omega) (by omega)]
  exact q1.rig x v hv
 ·intro x hx
  have hx : nx ≤ x := hx
  show g (swN k k' x) = none
  rw [swN_out (by omega) (by omega)]
  exact q2 x hx
theorem namT_nx : ∀ (l : List (Nat × Nat)) (s : St), (namT l s).nx = s.nx
 | [], s => rfl
 | (k, k') :: r, s => by rw [namT, namT_nx r]
theorem namT_leads : ∀ (l : List (Nat × Nat)) (s : St), namOk l s.nx = true → NpB s.B → Leads I nt s (namT l s)
 | [], s, _, _ => fun _ _ _ _ h => h
 | (k, k') :: r, s, h, hnp => by
  simp only [namOk, Bool.and_eq_true] at h
  obtain ⟨⟨⟨⟨h1, h2⟩, h3⟩, h4⟩, h5⟩ := h
  exact (sw_leads hnp (Nat.le_of_ble_eq_true h1) (Nat.le_of_ble_eq_true h2) (blt_lt h3) (blt_lt h4)).trans (namT_leads r _ h5 hnp.sw)
theorem cutS_leads {E : Env} {B : Bxs} {nx nx' : Nat} (hE : ltE nx' E = true) (hB : ltBs nx' B = true) (hnp : NpB B) (h2n : 2 ≤ nx') : Leads I nt ⟨E, B, nx⟩ ⟨E, B, nx'⟩ := by
 rintro N0 w0 a w ⟨N, g, h1, h2⟩
 have hlt : ∀ {k e}, lookB B k = some e → k < nx' ∧ e.its.all (It.lt nx') = true := fun he => by
  obtain ⟨r1, r2⟩ := ltBs_look hB he
  refine ⟨r1, ?_⟩
  rw [Bool.or_eq_true] at r2
  exact r2.elim (fun hs => noPtr_lt _ (lookB_np hnp he hs)) id
 refine ⟨N, cutG g nx', { h1 with slots := fun t v hv => TV.lt_sem (ltE_look hE hv) (h1.slots t v hv), boxes := fun k e he => (h1.boxes k e he).cut (hlt he).1 (hlt he).2, inj := ?_, rig := fun x v hv => by rw [cutG_at (Nat.lt_of_lt_of_le (w0.lo x v hv) h2n)]; exact h1.rig x v hv }, fun k hk => by show cutG g nx' k = none; unfold cutG; rw [if_neg (Nat.not_lt.2 hk)]⟩
 intro k j e e' bb q1 q2 q3 q4
 rw [cutG_blk (hlt q1).1] at q3
 rw [cutG_blk (hlt q2).1] at q4
 exact h1.inj k j e e' bb q1 q2 q3 q4
/-- boxes under other names, types that say less, names from t.nx on forgotten -/
theorem nam_leads (l : List (Nat × Nat)) {s t : St} (hE : WkE (namT l s).E t.E) (hB : WkB (namT l s).B t.B) (h1 : namOk l s.nx = true := by rfl) (hnp : NpB s.B := by repeat' first | exact trivial | exact fun h => absurd h Bool.false_ne_true | exact fun _ => mapB_noPtr _ | exact fun _ => rfl | exact fun _ => np_app (mapB_noPtr _) rfl | refine ⟨?_, ?_⟩) (hnp2 : NpB t.B := by repeat' first | exact trivial | exact fun h => absurd h Bool.false_ne_true | exact fun _ => mapB_noPtr _ | exact fun _ => rfl | exact fun _ => np_app (mapB_noPtr _) rfl | refine ⟨?_, ?_⟩) (hn : (Nat.ble s.nx t.nx || (Nat.ble 2 t.nx && ltE t.nx t.E && ltBs t.nx t.B)) = true := by rfl) : Leads I nt s t := by
 have hx := namT_nx l s
 have a := namT_leads (I := I) (nt := nt) l s h1 hnp
 have b : Leads I nt (namT l s) ⟨t.E, t.B, s.nx⟩ := by rw [← hx]; exact weak_leads hE hB
 refine (a.trans b).trans ?_
 rw [Bool.or_eq_true, Bool.and_eq_true, Bool.and_eq_true] at hn
 rcases hn with hn | ⟨⟨h2, h3⟩, h4⟩
 ·rintro N0 w0 a w ⟨N, g, q1, q2⟩
  exact ⟨N, g, q1, fun k hk => q2 k (Nat.le_trans (Nat.le_of_ble_eq_true hn) hk)⟩
 ·exact cutS_leads h3 h4 hnp2 (Nat.le_of_ble_eq_true h2)
theorem Rnd.nam (l : List (Nat × Nat)) {c : Code} {r s t : St} {ex : Exit} (h : Rnd P I nt c r ex s) (hE : WkE (namT l s).E t.E) (hB : WkB (namT l s).B t.B) (h1 : namOk l s.nx = true := by rfl) (hnp : NpB s.B := by repeat' first | exact trivial | exact fun h => absurd h Bool.false_ne_true | exact fun _ => mapB_noPtr _ | exact fun _ => rfl | exact fun _ => np_app (mapB_noPtr _) rfl | refine ⟨?_, ?_⟩) (hnp2 : NpB t.B := by repeat' first | exact trivial | exact fun h => absurd h Bool.false_ne_true | exact fun _ => mapB_noPtr _ | exact fun _ => rfl | exact fun _ => np_app (mapB_noPtr _) rfl | refine ⟨?_, ?_⟩) (hn : (Nat.ble s.nx t.nx || (Nat.ble 2 t.nx && ltE t.nx t.E && ltBs t.nx t.B)) = true := by rfl) : Rnd P I nt c r ex t :=
 h.leads (nam_leads l hE hB h1 hnp hnp2 hn)
def PickE (E : Env) : Env → Prop
 | [] => True
 | (t, v) :: r => look E t = some v ∧ PickE E r
def PickB (B : Bxs) : Bxs → Prop
 | [] => True
 | (k, some e) :: r => lookB B k = some e ∧ PickB B r
 | (_, none) :: r => False
theorem PickE.look {E : Env} : ∀ {F : Env} {t : Nat} {v : TV}, PickE E F → look F t = some v → Go.Proofs.Ytflajoflpkboiaa.look E t = some v
 | [], _, _, _, h => by cases h
 | (q, u) :: r, t, v, hp, h => by
  rw [look_cons] at h
  by_cases hq : q = t
  ·rw [if_pos hq] at h; rw [← hq, ← h]; exact hp.1
  ·rw [if_neg hq] at h; exact PickE.look hp.2 h
theorem PickB.look {B : Bxs} : ∀ {F : Bxs} {k : Nat} {e : Ent}, PickB B F → lookB F k = some e → lookB B k = some e
 | [], _, _, _, h => by cases h
 | (q, some u) :: r, k, e, hp, h => by
  rw [lookB_cons] at h
  by_cases hq : q = k
  ·rw [if_pos hq] at h; rw [← hq, ← h]; exact hp.1
  ·rw [if_neg hq] at h; exact PickB.look hp.2 h
 | (q, none) :: r, _, _, hp, _ => hp.elim
/-- nil in a slot becomes an empty slice of one's own -/
theorem nilA_leads {t k nx : Nat} {E : Env} {B : Bxs} (T s : Nat) (h : look E t = some (tlit (.slice none 0 0))) (h1 : (avE k E && avB k B && Nat.blt k nx && Nat.ble 2 k) = true) (hB : lookB B nx = none) : Leads I nt ⟨E, B, nx⟩ ⟨(t, .cv (.one (.sl k))) :: E, (k, some ⟨T, some (s, 0), []⟩) :: B, nx + 1⟩ := by
 simp only [Bool.and_eq_true] at h1
 have := Nat.le_of_ble_eq_true h1.2
 have a : Leads I nt ⟨E, B, nx⟩ ⟨(t, tlit (.slice none 0 0)) :: E, B, nx⟩ := by
  rintro N0 w0 a w ⟨N, g, q1, q2⟩
  refine ⟨N, g, q1.weak (fun q v hv => ?_) (fun _ _ h => h), q2⟩
  rw [look_cons] at hv
  by_cases hq : t = q
  ·rw [if_pos hq] at hv; rw [← hq, ← hv]; exact h
  ·rw [if_neg hq] at hv; exact hv
 exact a.trans ((nil_leads T s).trans (ren_leads (k := k) h1.1.1.1 h1.1.1.2 rfl (Nat.lt_succ_of_lt (blt_lt h1.1.2)) hB))
theorem ILe.eq {l l' : List It} (h : l = l') : ILe l l' := h ▸ ILe.refl
end
end Go.Proofs.Ytflajoflpkboiaa

/- Changes of a tree of one's own: Clone, raise, find, split, New of the program. -/
namespace Go.Proofs.Ytflajoflpkboiaa
open Go Go.RowKit
set_option linter.unusedVariables false
set_option linter.unusedSimpArgs false

section
variable {P : Program} {I : WInv} {N : Nat → Prop} {w : World}
/-- a new slice that is handed out, given out of hand -/
def It.fz (i : Item) : It → It
 | .sl _ => .b (.it i)
 | x => x
def CT.fz (i : Item) : CT → CT
 | .one x => .one (x.fz i)
 | .ag l => .ag (l.map (It.fz i))
def TV.fz (i : Item) : TV → TV
 | .cv c => .cv (c.fz i)
 | .tu l => .tu (l.map (CT.fz i))
def It.ok2 : It → Bool
 | .sl k => Nat.beq k 2
 | .ptr _ _ => false
 | _ => true
def CT.ok2 : CT → Bool
 | .one x => x.ok2
 | .ag l => l.all It.ok2
def TV.ok2 : TV → Bool
 | .cv c => c.ok2
 | .tu l => l.all CT.ok2
variable {N1 : Nat → Prop} {g : Gh} {i : Item}
theorem It.fz_sem (hN : ∀ b, N b → N1 b) (hs : ∀ l, (It.sl 2).sem N w g l → i.T N1 w l) {x : It} {l : List Value} (hx : x.ok2 = true) (h : x.sem N w g l) : (x.fz i).sem N1 w G0 l := by
 cases x with
 | b x => exact It0.step h (WStep.refl _ _) hN
 | ptr k off => cases hx
 | fp x => obtain ⟨b, off, h1, h2⟩ := h; exact ⟨b, off, h1, h2.step (WStep.refl _ _) hN⟩
 | sl k =>
  have := Nat.eq_of_beq_eq_true hx
  subst this
  exact hs l h
theorem semL_fz (hN : ∀ b, N b → N1 b) (hs : ∀ l, (It.sl 2).sem N w g l → i.T N1 w l) : ∀ {xs : List It} {l : List Value}, xs.all It.ok2 = true → semL N w g xs l → semL N1 w G0 (xs.map (It.fz i)) l
 | [], _, _, h => h
 | x :: xs, _, hn, ⟨l1, l2, e, h1, h2⟩ => by
  simp only [List.all_cons, Bool.and_eq_true] at hn
  exact ⟨l1, l2, e, It.fz_sem hN hs hn.1 h1, semL_fz hN hs hn.2 h2⟩
theorem CT.fz_sem (hN : ∀ b, N b → N1 b) (hs : ∀ l, (It.sl 2).sem N w g l → i.T N1 w l) {c : CT} {v : Value} (hc : c.ok2 = true) (h : c.sem N w g v) : (c.fz i).sem N1 w G0 v := by
 cases c with
 | one x => exact It.fz_sem hN hs hc h
 | ag l => obtain ⟨vs, e, h1⟩ := h; exact ⟨vs, e, semL_fz hN hs hc h1⟩
theorem all2_fz (hN : ∀ b, N b → N1 b) (hs : ∀ l, (It.sl 2).sem N w g l → i.T N1 w l) : ∀ {cs : List CT} {vs : List Value}, cs.all CT.ok2 = true → all2 (CT.sem N w g) cs vs → all2 (CT.sem N1 w G0) (cs.map (CT.fz i)) vs
 | [], _, _, h => h
 | c :: cs, _, hn, ⟨v, l, e, h1, h2⟩ => by
  simp only [List.all_cons, Bool.and_eq_true] at hn
  exact ⟨v, l, e, CT.fz_sem hN hs hn.1 h1, all2_fz hN hs hn.2 h2⟩
theorem TV.fz_sem (hN : ∀ b, N b → N1 b) (hs : ∀ l, (It.sl 2).sem N w g l → i.T N1 w l) {c : TV} {v : Value} (hc : c.ok2 = true) (h : c.sem N w g v) : (c.fz i).sem N1 w G0 v := by
 cases c with
 | cv x => exact CT.fz_sem hN hs hc h
 | tu l => obtain ⟨vs, e, h1⟩ := h; exact ⟨vs, e, all2_fz hN hs hc h1⟩
theorem own_item2 {K : Nat → Prop} {k T sz n : Nat} {rows : List (List It0)} (hbox : BoxSem N w g K k ⟨T, some (sz, n), flatR rows⟩) (hn : n = rows.length) (hw : ∀ r ∈ rows, widthO r = sz) {l : List Value} (h : (It.sl k).sem N w g l) : (slI sz rows).T (fun b => N b ∨ blkOf g k = some b) w l := own_item hbox hn hw h
/-- a function that hands out a new slice, as one whose result stays -/
theorem SpM.freeze {f : FuncId} {args : List CT} {res : TV} {T sz n : Nat} {rows : List (List It0)} (h : SpM P I f [] args [(2, some ⟨T, some (sz, n), flatR rows⟩)] res) (hn : n = rows.length) (hw : ∀ r ∈ rows, widthO r = sz) (hok : res.ok2 = true) : Sp P I f args (res.fz (slI sz rows)) := by
 intro N w vs hI hlow hargs
 refine (h N (fun b => b < w.heap.size) w G0 vs hI hlow (fun b hb => hb) (fun k e he => by cases he) (fun k j e e' b he => by cases he) (fun k _ => rfl) hargs).mono ?_
 rintro en w' ⟨v, N', g', rfl, q1, q2, q3, q4, q5, q6, q7⟩
 have hbox := q4 2 _ rfl
 refine ⟨v, rfl, ?_, below_k q3⟩
 have hx := TV.fz_sem (N := N') (N1 := fun b => N' b ∨ blkOf g' 2 = some b) (i := slI sz rows) (fun b hb => .inl hb) (fun l hl => own_item2 hbox hn hw hl) hok q7
 refine TV.step hx (WStep.refl _ _) ?_ (GExt.refl _)
 rintro b (hb | hb)
 ·rcases q2 b hb with hb | ⟨hb1, hb2⟩
  ·exact .inl hb
  ·exact .inr ⟨Nat.not_lt.1 hb1, hb2⟩
 ·obtain ⟨cs, m, h1, _, _, h4, h5, _⟩ := hbox.at hb
  exact .inr ⟨Nat.not_lt.1 h5, (Array.getElem?_eq_some_iff.1 h1).1⟩
end
end Go.Proofs.Ytflajoflpkboiaa

/- Changes of a tree of one's own: Clone, raise, find, split of the program. -/
namespace Go.Proofs.Ytflajoflpkboiaa
open Go Go.RowKit
set_option linter.unusedVariables false
set_option linter.unusedSimpArgs false

section
variable {P : Program} {I : WInv}
theorem rows_cat {N : Nat → Prop} {w : World} {b sz : Nat} {cs : Array Value} {T : TypeId} {fr : Nat × Nat} (hb : w.heap[b]? = some (.cells cs T fr)) : ∀ (rows : List (List It0)) (off : Nat), (∀ r ∈ rows, widthO r = sz) → (∀ i r, rows[i]? = some r → RowAt N w b (off + i * sz) r) → ∃ vs : List Value, vs.length = rows.length * sz ∧ semL0 N w rows.flatten vs ∧ (cs.toList.drop off).take vs.length = vs
 | [], off, _, _ => ⟨[], by simp, rfl, by simp⟩
 | r :: rows, off, hw, h => by
  obtain ⟨cs', T', fr', us, _, h2, h3, h4⟩ := h 0 r rfl
  rw [hb] at h2
  injection h2 with h2
  injection h2 with e1 e2 e3
  subst e1
  rw [Nat.zero_mul, Nat.add_zero] at h3
  have hl := semL0_len h4
  rw [hw r (by simp)] at hl
  obtain ⟨vs, k1, k2, k3⟩ := rows_cat hb rows (off + sz) (fun q hq => hw q (by simp [hq])) fun i q hi => by
   have := h (i + 1) q (by simpa using hi)
   rw [Nat.add_mul, Nat.one_mul] at this
   rw [show off + sz + i * sz = off + (i * sz + sz) by omega]; exact this
  refine ⟨us ++ vs, by rw [List.length_append, hl, k1, List.length_cons, Nat.add_mul]; omega, ?_, ?_⟩
  ·have app : ∀ {xs ys : List It0} {l1 l2 : List Value}, semL0 N w xs l1 → semL0 N w ys l2 → semL0 N w (xs ++ ys) (l1 ++ l2) := by
    intro xs
    induction xs with
    | nil => intro ys l1 l2 a b; rw [show l1 = [] from a]; exact b
    | cons x xs ih => rintro ys l1 l2 ⟨p, q, e, a1, a2⟩ b; exact ⟨p, q ++ l2, by rw [e, List.append_assoc], a1, ih a2 b⟩
   exact app h4 k2
  ·rw [List.length_append, List.take_add, h3, List.drop_drop, hl, k3]
/-- a slice that stays, as a source of append -/
theorem sl_src {sz : Nat} {rows : List (List It0)} (hw : ∀ r ∈ rows, widthO r = sz) (hok : (rows.flatten.map It.b).all It.okB = true) : SrcOb sz (slI sz rows) rows.length rows.flatten := by
 rintro N w l ⟨A, c, e, h1, h2, h3⟩
 by_cases hne : rows = []
 ·subst hne
  cases A with
  | none => exact ⟨none, c, e, .inl ⟨rfl, rfl, rfl⟩⟩
  | some a => exact ⟨some a, c, e, .inr ⟨a, [], rfl, by simp, rfl, by simp, by simp⟩⟩
 obtain ⟨b, off, rfl, hr⟩ := h3 hne
 obtain ⟨r0, rs, hrows⟩ := List.exists_cons_of_ne_nil hne
 obtain ⟨cs, T, fr, _, _, hb, _, _⟩ := hr 0 r0 (by rw [hrows]; rfl)
 obtain ⟨vs, k1, k2, k3⟩ := rows_cat hb rows off hw hr
 refine ⟨_, c, e, .inr ⟨_, vs, rfl, k1, k2, semL_cells (g := G0) (semL0_semL k2) hok, ?_⟩⟩
 intro j u hj
 rw [addr_add]
 have hj' := hj
 rw [← k3, List.getElem?_take] at hj
 split at hj
 ·rw [List.getElem?_drop] at hj
  simp only [World.cell?, hb]; simpa using hj
 ·cases hj
theorem eq_slice_nil (w : World) (d : Nat) {t e : TypeId} {a : Addr} {n c : Nat} (ht : P.underlying t = some (.slice e)) : (Op.equalIn (d + 1) t (.slice (some a) n c) (.slice none 0 0)).run P w = .ok false w := by
 simp [Op.equalIn, underlying_run ht]
theorem sl_nil {t e : TypeId} {sz : Nat} {rows : List (List It0)} (ht : P.underlying t = some (.slice e)) (hne : rows ≠ []) : OpOb P (.bin .eql t) [tit (slI sz rows), tlit (.slice none 0 0)] (lb false) := by
 intro N w g vs hv
 obtain ⟨v, x, rfl, ⟨A, c, e1, _, _, h⟩, h2⟩ := all2T_two hv
 injection e1 with e1
 subst e1
 have h2 : [x] = [.slice none 0 0] := h2
 injection h2 with h2
 subst h2
 obtain ⟨b, off, rfl, _⟩ := h hne
 refine ⟨.bool false, w, ?_, Below.refl _ _, (rfl : [_] = [_])⟩
 have key : (Op.equal t (.slice (some ⟨b, off, none⟩) rows.length c) (.slice none 0 0)).run P w = .ok false w := eq_slice_nil w 9999 ht
 simp only [OpK.run, Sem.run_bind, eqGuard]
 simp [binOp, key]
end
/-! ### nodes of one's own -/
theorem rowT_ok {c : Bool} {L : List Nd} : okR 9 (L.map (rowT c)) := by
 intro r hr
 obtain ⟨x, _, rfl⟩ := List.mem_map.1 hr
 refine ⟨rfl, fun y hy => ?_⟩
 simp at hy
 rcases hy with rfl | rfl | rfl | rfl | rfl | rfl <;> first | exact Nat.one_pos | exact (by decide : 0 < 4)
theorem rowT_w {c : Bool} {L : List Nd} : ∀ r ∈ L.map (rowT c), widthO r = 9 := fun r hr => (rowT_ok r hr).1
theorem rowT_cells {c : Bool} {L : List Nd} : ((L.map (rowT c)).flatten.map It.b).all It.okB = true := by
 rw [List.all_eq_true]
 intro x hx
 obtain ⟨y, hy, rfl⟩ := List.mem_map.1 hx
 obtain ⟨r, hr, hy⟩ := List.mem_flatten.1 hy
 obtain ⟨d, _, rfl⟩ := List.mem_map.1 hr
 simp at hy
 rcases hy with rfl | rfl | rfl | rfl | rfl | rfl <;> rfl
theorem sub_nd {c : Bool} {L : List Nd} {i fo n : Nat} {m : List It} (h : i < L.length) (hs : subAt ((rowT c (tat L i)).map It.b) fo n = some m) : subAt (flatR (L.map (rowT c))) (i * 9 + fo) n = some m := sub_row (tat_row h) rowT_ok hs
theorem upd_nd {c : Bool} {L : List Nd} {i fo : Nat} {new : List It} (h : i < L.length) (y : Nd) (hu : updAt ((rowT c (tat L i)).map It.b) fo new = some ((rowT c y).map It.b)) : updAt (flatR (L.map (rowT c))) (i * 9 + fo) new = some (flatR ((L.set i y).map (rowT c))) := by
 have := upd_row (sz := 9) (tat_row (f := rowT c) h) rowT_ok hu
 rw [← List.map_set] at this
 exact this
structure Ch where
 kind : Int
 node : Int
 q : Rat
 fst : Int
 nxt : Int
 cost : Int
/-- a change, handed over by value -/
abbrev chT (c : Bool) (x : Ch) : CT := .ag [.b (.lit (.int .i64 x.kind)), .b (.lit (.int .i64 x.node)), .b (.it (fF c 12 x.q)), .b (.lit (.int .i64 x.fst)), .b (.lit (.int .i64 x.nxt)), .b (.lit (.int .i64 x.cost))]
abbrev tbx (f : Bool) (z : Int) (k : Nat) : Ent := ⟨24, none, [.sl k, .b (.lit (.bool f)), .b (.lit (.int .i64 z))]⟩
abbrev nbx (c : Bool) (L : List Nd) (n : Nat) : Ent := ⟨46, some (9, n), flatR (L.map (rowT c))⟩
section
variable {I : WInv} {c c' : Bool} {p : Rat}
theorem fresh_c : Sp Try.prog I 10 [fc c' 12 p] (tfc c 12 p) := (fresh_sp (c := c')).rs (fc_le (fun _ => rfl) (Nat.le_refl _) rfl).tv

theorem clone_spn (L : List Nd) (h0 : 0 < L.length) (hl : L.length ≤ 1000000) : SpN Try.prog I 13 [.one (.b (.it (trI c L)))] none (nbx c L L.length) := by
 have hlen : (L.map (rowT c)).length = L.length := List.length_map _
 have hne : L.map (rowT c) ≠ [] := fun h => by rw [h] at hlen; simp at hlen; omega
 have hl2 := hl
 rw [← hlen] at hl2
 have h : SpN Try.prog I 13 [.one (.b (.it (trI c L)))] none (nbx c L (0 + (L.map (rowT c)).length)) := spn_run (nt := 8) 5 1000 [pk (sl_nil (P := Try.prog) (t := 22) (e := 46) (sz := 9) (rows := L.map (rowT c)) (by kernel_rfl) hne), ⟨.src 9 (slI 9 (L.map (rowT c))) (L.map (rowT c)).length (L.map (rowT c)).flatten, sl_src rowT_w rowT_cells⟩, ⟨.ap 0 ((L.map (rowT c)).length) 104, ⟨by omega, by simp [maxLen]; omega⟩⟩] (mapB_noPtr _) (by kernel_rfl)
 rw [Nat.zero_add, hlen] at h
 exact h
end
end Go.Proofs.Ytflajoflpkboiaa

/- raise, find, split of the program. -/
namespace Go.Proofs.Ytflajoflpkboiaa
open Go Go.RowKit
set_option linter.unusedVariables false
set_option linter.unusedSimpArgs false

theorem tat_set {L : List Nd} {i j : Nat} {y : Nd} (h : i < L.length) : tat (L.set i y) j = if i = j then y else tat L j := by
 unfold tat
 rw [List.getD_eq_getElem?_getD, List.getD_eq_getElem?_getD, List.getElem?_set]
 by_cases hij : i = j
 ·subst hij; rw [if_pos rfl, if_pos rfl, if_pos h]; rfl
 ·rw [if_neg hij, if_neg hij]
theorem tat_left {L M : List Nd} {i : Nat} (h : i < L.length) : tat (L ++ M) i = tat L i := by
 unfold tat
 rw [List.getD_eq_getElem?_getD, List.getD_eq_getElem?_getD, List.getElem?_append_left h]
def raE (L : List Nd) (x : Ch) : Int := if x.node < 0 ∨ (L.length : Int) ≤ x.node then 5 else if okc x.q = false then 5 else if (tat L x.node.toNat).st ≠ 0 then 16 else 0
def raL (L : List Nd) (x : Ch) : List Nd := if (tat L x.node.toNat).q < x.q then L.set x.node.toNat ⟨(tat L x.node.toNat).par, (tat L x.node.toNat).fst, (tat L x.node.toNat).nxt, (tat L x.node.toNat).tog, x.q, (tat L x.node.toNat).st⟩ else L
def fiE (x : Ch) : Int := if costB x.cost then 0 else 5
def spE (L : List Nd) (x : Ch) : Int := if x.node < 0 ∨ (L.length : Int) ≤ x.node ∨ x.fst < 0 ∨ x.nxt < 0 ∨ x.fst = x.nxt then 5 else if (tat L x.node.toNat).st ≠ 0 then 16 else if 2000 < L.length + 2 ∨ 32 ≤ (pathD L x.node.toNat).length then 10 else if decB L x.node.toNat x.fst x.nxt then 20 else 0
/-- the new node of a decision -/
def kid (L : List Nd) (x : Ch) (b : Bool) : Nd := ⟨x.node, x.fst, x.nxt, b, (tat L x.node.toNat).q, 0⟩
def marked (L : List Nd) (i : Nat) : List Nd := L.set i ⟨(tat L i).par, (tat L i).fst, (tat L i).nxt, (tat L i).tog, (tat L i).q, 1⟩
def spL (L : List Nd) (x : Ch) : List Nd := marked L x.node.toNat ++ [kid L x true, kid L x false]
theorem cmpq_gtT {a b : Rat} (h : b < a) : decide (cmpq a b > 0) = true := by
 unfold cmpq
 rw [if_neg (by grind), if_neg (by grind)]; rfl
theorem cmpq_gtF {a b : Rat} (h : ¬ b < a) : decide (cmpq a b > 0) = false := by
 unfold cmpq
 by_cases h1 : a < b
 ·rw [if_pos h1]; rfl
 ·rw [if_neg h1, if_pos (by grind)]; rfl
section
variable {I : WInv} {c c' : Bool}

theorem raise_err (L : List Nd) (f : Bool) (z : Int) (n : Nat) (hn : L.length = n) (x : Ch) (h : raE L x ≠ 0) : SpM Try.prog I 30 [(0, some (tbx f z 1)), (1, some (nbx c L n))] [.one (.ptr 0 0), chT c' x] [(0, some (tbx f z 1)), (1, some (nbx c L n))] (li (raE L x)) := by
 unfold raE at h ⊢
 by_cases h1 : x.node < 0
 ·rw [if_pos (.inl h1)]
  exact spm_run (nt := 55) 1000 [pk (bT_lss 3 x.node 0)] (by kernel_rfl)
 ·by_cases h2 : (L.length : Int) ≤ x.node
  ·rw [if_pos (.inr h2)]
   exact spm_run (nt := 55) 1000 [pk (bF_lss 3 x.node 0), pk (bT_geq 3 x.node (n : Nat))] (by kernel_rfl)
  ·rw [if_neg (by omega)] at h ⊢
   have hce := ceilInt_sp (I := I) (c := c') (p := x.q)
   cases h3 : okc x.q with
   | false =>
    rw [cie_no h3] at hce
    rw [if_pos rfl]
    exact spm_run (nt := 55) 1000 [pk (bF_lss 3 x.node 0), pk (bF_geq 3 x.node (n : Nat)), po (hce), pa] (by kernel_rfl)
   | true =>
    rw [cie_ok h3] at hce
    rw [h3, if_neg (by decide)] at h
    rw [if_neg (by decide)]
    obtain ⟨i, hni⟩ : ∃ i : Nat, x.node = (i : Int) := ⟨x.node.toNat, by omega⟩
    have hi : i < L.length := by omega
    have ht : x.node.toNat = i := by omega
    rw [ht] at h ⊢
    by_cases h4 : (tat L i).st = 0
    ·rw [if_neg (by simp [h4])] at h; exact absurd rfl h
    ·rw [if_pos h4]
     exact spm_run (nt := 55) 1000 [pk (bF_lss 3 x.node 0), pk (bF_geq 3 x.node (n : Nat)), po (hce), pa, ⟨.ix x.node i n, ⟨by omega, by omega⟩⟩, ⟨.part (flatR ((L).map (rowT c))) (i * 9 + 8) 1 [.b (.lit (.int .i64 ((tat L i).st)))], (sub_nd (c := c) (fo := 8) (n := 1) hi rfl)⟩, pk (b_neq 3 ((tat L i).st) 0 true (decide_eq_false h4))] (by kernel_rfl)
theorem raise_ok (L : List Nd) (f : Bool) (z : Int) (n : Nat) (hn : L.length = n) (x : Ch) (h : raE L x = 0) : SpM Try.prog I 30 [(0, some (tbx f z 1)), (1, some (nbx c L n))] [.one (.ptr 0 0), chT c' x] [(0, some (tbx f z 1)), (1, some (nbx c (raL L x) n))] (li 0) := by
 unfold raE at h
 unfold raL
 by_cases h1 : x.node < 0 ∨ (L.length : Int) ≤ x.node
 ·rw [if_pos h1] at h; omega
 ·rw [if_neg h1] at h
  cases h3 : okc x.q with
  | false => rw [h3, if_pos rfl] at h; omega
  | true =>
   rw [h3, if_neg (by decide)] at h
   have hce := ceilInt_sp (I := I) (c := c') (p := x.q)
   rw [cie_ok h3] at hce
   obtain ⟨i, hni⟩ : ∃ i : Nat, x.node = (i : Int) := ⟨x.node.toNat, by omega⟩
   have hi : i < L.length := by omega
   have ht : x.node.toNat = i := by omega
   rw [ht] at h ⊢
   by_cases h4 : (tat L i).st = 0
   ·by_cases h5 : (tat L i).q < x.q
    ·rw [if_pos h5]
     exact spm_run (nt := 55) 1000 [pk (bF_lss 3 x.node 0), pk (bF_geq 3 x.node (n : Nat)), po (hce), pa, ⟨.ix x.node i n, ⟨by omega, by omega⟩⟩, ⟨.part (flatR ((L).map (rowT c))) (i * 9 + 8) 1 [.b (.lit (.int .i64 ((tat L i).st)))], (sub_nd (c := c) (fo := 8) (n := 1) hi rfl)⟩, pk (b_neq 3 ((tat L i).st) 0 false (decide_eq_true h4)), ⟨.part ([.b (.lit (.int .i64 x.kind)), .b (.lit (.int .i64 x.node)), .b (.it (fF c' 12 x.q)), .b (.lit (.int .i64 x.fst)), .b (.lit (.int .i64 x.nxt)), .b (.lit (.int .i64 x.cost))]) 2 4 [.b (.it (fF c' 12 x.q))], rfl⟩, ⟨.part (flatR ((L).map (rowT c))) (i * 9 + 4) 4 [.b (.it (fF c 12 (tat L i).q))], (sub_nd (c := c) (fo := 4) (n := 4) hi rfl)⟩, po (cmpF (I := I) (c := c') (c' := c) (k := 12) (j := 12) (p := x.q) (q := (tat L i).q) (r := cmpq x.q ((tat L i).q)) rfl (by omega)), pk (b_gtr 3 (cmpq x.q ((tat L i).q)) 0 true (cmpq_gtT h5)), po (fresh_c (I := I) (c := c) (c' := c') (p := x.q)), ⟨.upd (flatR ((L).map (rowT c))) (i * 9 + 4) [.b (.it (fF c 12 x.q))] (flatR (((L).set i ⟨(tat L i).par, (tat L i).fst, (tat L i).nxt, (tat L i).tog, x.q, (tat L i).st⟩).map (rowT c))), (upd_nd (c := c) (fo := 4) hi ⟨(tat L i).par, (tat L i).fst, (tat L i).nxt, (tat L i).tog, x.q, (tat L i).st⟩ rfl)⟩] (by kernel_rfl)
    ·rw [if_neg h5]
     exact spm_run (nt := 55) 1000 [pk (bF_lss 3 x.node 0), pk (bF_geq 3 x.node (n : Nat)), po (hce), pa, ⟨.ix x.node i n, ⟨by omega, by omega⟩⟩, ⟨.part (flatR ((L).map (rowT c))) (i * 9 + 8) 1 [.b (.lit (.int .i64 ((tat L i).st)))], (sub_nd (c := c) (fo := 8) (n := 1) hi rfl)⟩, pk (b_neq 3 ((tat L i).st) 0 false (decide_eq_true h4)), ⟨.part ([.b (.lit (.int .i64 x.kind)), .b (.lit (.int .i64 x.node)), .b (.it (fF c' 12 x.q)), .b (.lit (.int .i64 x.fst)), .b (.lit (.int .i64 x.nxt)), .b (.lit (.int .i64 x.cost))]) 2 4 [.b (.it (fF c' 12 x.q))], rfl⟩, ⟨.part (flatR ((L).map (rowT c))) (i * 9 + 4) 4 [.b (.it (fF c 12 (tat L i).q))], (sub_nd (c := c) (fo := 4) (n := 4) hi rfl)⟩, po (cmpF (I := I) (c := c') (c' := c) (k := 12) (j := 12) (p := x.q) (q := (tat L i).q) (r := cmpq x.q ((tat L i).q)) rfl (by omega)), pk (b_gtr 3 (cmpq x.q ((tat L i).q)) 0 false (cmpq_gtF h5))] (by kernel_rfl)
   ·rw [if_pos h4] at h; omega

def fnF (f : Bool) (z : Int) (x : Ch) : Bool × Int := if f = false ∨ x.cost < z then (true, x.cost) else (f, z)
theorem find_err (f : Bool) (z : Int) (k : Ent) (x : Ch) (h : fiE x ≠ 0) : SpM Try.prog I 32 [(0, some (tbx f z 1)), (1, some k)] [.one (.ptr 0 0), chT c' x] [(0, some (tbx f z 1)), (1, some k)] (li (fiE x)) := by
 unfold fiE at h ⊢
 have hc := cost_sp (I := I) x.cost
 cases h1 : costB x.cost with
 | true => rw [h1] at h; exact absurd rfl h
 | false =>
  rw [h1] at hc
  exact spm_run (nt := 31) 1000 [po (hc), pa] (by kernel_rfl)
theorem find_ok (f : Bool) (z : Int) (k : Ent) (x : Ch) (h : fiE x = 0) : SpM Try.prog I 32 [(0, some (tbx f z 1)), (1, some k)] [.one (.ptr 0 0), chT c' x] [(0, some (tbx (fnF f z x).1 (fnF f z x).2 1)), (1, some k)] (li 0) := by
 have h1 : costB x.cost = true := by
  unfold fiE at h
  cases h1 : costB x.cost with
  | true => rfl
  | false => rw [h1] at h; exact absurd h (by decide)
 have hc := cost_sp (I := I) x.cost
 rw [h1] at hc
 unfold fnF
 cases f with
 | false =>
  rw [if_pos (.inl rfl)]
  exact spm_run (nt := 31) 1000 [po (hc), pa, pa] (by kernel_rfl)
 | true =>
  by_cases h2 : x.cost < z
  ·rw [if_pos (.inr h2)]
   exact spm_run (nt := 31) 1000 [po (hc), pa, pa, pk (bT_lss 3 x.cost z)] (by kernel_rfl)
  ·rw [if_neg (by simp [h2])]
   exact spm_run (nt := 31) 1000 [po (hc), pa, pa, pk (bF_lss 3 x.cost z)] (by kernel_rfl)

theorem borrow_path {L : List Nd} (f : Bool) (z : Int) (n : Nat) (hn : L.length = n) (i : Nat) (hD : Dn L (L.length - 1)) (hi : i < L.length) (hl : L.length ≤ 1000000) : SpM Try.prog I 15 [(0, some (nbx c L n))] [.ag [.sl 0, .b (.lit (.bool f)), .b (.lit (.int .i64 z))], ci (i : Int)] [(0, some (nbx c L n))] (tit (lnI (pathD L i).length)) :=
 borrow (args := [.ag [.sl 0, .b (.lit (.bool f)), .b (.lit (.int .i64 z))], ci (i : Int)]) (path_sp L f z i (fun j h0 hj => hD j h0 (by omega)) hi hl) (by rw [List.length_map]; exact hn.symm) rowT_w rfl (sl_free (by rw [List.length_map])) rfl
theorem borrow_decided {L : List Nd} (f : Bool) (z : Int) (n : Nat) (hn : L.length = n) (i : Nat) (x y : Int) (hD : Dn L (L.length - 1)) (hi : i < L.length) : SpM Try.prog I 36 [(0, some (nbx c L n))] [.ag [.sl 0, .b (.lit (.bool f)), .b (.lit (.int .i64 z))], ci (i : Int), ci x, ci y] [(0, some (nbx c L n))] (lb (decB L i x y)) :=
 borrow (args := [.ag [.sl 0, .b (.lit (.bool f)), .b (.lit (.int .i64 z))], ci (i : Int), ci x, ci y]) (decided_sp L f z i x y (fun j h0 hj => hD j h0 (by omega)) hi) (by rw [List.length_map]; exact hn.symm) rowT_w rfl lit_free rfl
theorem split_err (L : List Nd) (f : Bool) (z : Int) (n : Nat) (hn : L.length = n) (hl : n ≤ 2000) (hD : Dn L (L.length - 1)) (x : Ch) (h : spE L x ≠ 0) : SpM Try.prog I 31 [(0, some (tbx f z 1)), (1, some (nbx c L n))] [.one (.ptr 0 0), chT c' x] [(0, some (tbx f z 1)), (1, some (nbx c L n))] (li (spE L x)) := by
 unfold spE at h ⊢
 by_cases h1 : x.node < 0
 ·rw [if_pos (.inl h1)]
  exact spm_run (nt := 121) 1000 [pk (bT_lss 3 x.node 0)] (by kernel_rfl)
 ·by_cases h2 : (L.length : Int) ≤ x.node
  ·rw [if_pos (.inr (.inl h2))]
   exact spm_run (nt := 121) 1000 [pk (bF_lss 3 x.node 0), pk (bT_geq 3 x.node (n : Nat))] (by kernel_rfl)
  ·by_cases h3 : x.fst < 0
   ·rw [if_pos (.inr (.inr (.inl h3)))]
    exact spm_run (nt := 121) 1000 [pk (bF_lss 3 x.node 0), pk (bF_geq 3 x.node (n : Nat)), pk (bT_lss 3 x.fst 0)] (by kernel_rfl)
   ·by_cases h4 : x.nxt < 0
    ·rw [if_pos (.inr (.inr (.inr (.inl h4))))]
     exact spm_run (nt := 121) 1000 [pk (bF_lss 3 x.node 0), pk (bF_geq 3 x.node (n : Nat)), pk (bF_lss 3 x.fst 0), pk (bT_lss 3 x.nxt 0)] (by kernel_rfl)
    ·by_cases h5 : x.fst = x.nxt
     ·rw [if_pos (.inr (.inr (.inr (.inr h5))))]
      exact spm_run (nt := 121) 1000 [pk (bF_lss 3 x.node 0), pk (bF_geq 3 x.node (n : Nat)), pk (bF_lss 3 x.fst 0), pk (bF_lss 3 x.nxt 0), pk (bT_eql 3 x.fst x.nxt)] (by kernel_rfl)
     ·rw [if_neg (by omega)] at h ⊢
      obtain ⟨i, hni⟩ : ∃ i : Nat, x.node = (i : Int) := ⟨x.node.toNat, by omega⟩
      have hi : i < L.length := by omega
      have ht : x.node.toNat = i := by omega
      rw [ht] at h ⊢
      by_cases h6 : (tat L i).st = 0
      ·rw [if_neg (by simp [h6])] at h ⊢
       have hpa := borrow_path (I := I) (c := c) f z n hn i hD hi (by omega)
       have hde := borrow_decided (I := I) (c := c) f z n hn i x.fst x.nxt hD hi
       rw [← hni] at hpa hde
       generalize (pathD L i).length = k at *
       by_cases h7 : 2000 < L.length + 2
       ·rw [if_pos (.inl h7)]
        exact spm_run (nt := 121) 1000 [pk (bF_lss 3 x.node 0), pk (bF_geq 3 x.node (n : Nat)), pk (bF_lss 3 x.fst 0), pk (bF_lss 3 x.nxt 0), pk (bF_eql 3 x.fst x.nxt), ⟨.ix x.node i n, ⟨by omega, by omega⟩⟩, ⟨.part (flatR ((L).map (rowT c))) (i * 9 + 8) 1 [.b (.lit (.int .i64 ((tat L i).st)))], (sub_nd (c := c) (fo := 8) (n := 1) hi rfl)⟩, pk (b_neq 3 ((tat L i).st) 0 false (decide_eq_true h6)), pk (b_add 3 (n : Nat) 2 ⟨by omega, by omega⟩), pk (bT_gtr 3 ((n : Nat) + 2) 2000)] (by kernel_rfl)
       ·by_cases h8 : 32 ≤ k
        ·rw [if_pos (.inr h8)]
         exact spm_run (nt := 121) 1000 [pk (bF_lss 3 x.node 0), pk (bF_geq 3 x.node (n : Nat)), pk (bF_lss 3 x.fst 0), pk (bF_lss 3 x.nxt 0), pk (bF_eql 3 x.fst x.nxt), ⟨.ix x.node i n, ⟨by omega, by omega⟩⟩, ⟨.part (flatR ((L).map (rowT c))) (i * 9 + 8) 1 [.b (.lit (.int .i64 ((tat L i).st)))], (sub_nd (c := c) (fo := 8) (n := 1) hi rfl)⟩, pk (b_neq 3 ((tat L i).st) 0 false (decide_eq_true h6)), pk (b_add 3 (n : Nat) 2 ⟨by omega, by omega⟩), pk (bF_gtr 3 ((n : Nat) + 2) 2000), pom [1] (hpa), pk (ln_len 37 44 3 k (by kernel_rfl)), pk (bT_geq 3 (k : Int) 32)] (by kernel_rfl)
        ·rw [if_neg (by omega)] at h ⊢
         cases h9 : decB L i x.fst x.nxt with
         | false => rw [h9] at h; exact absurd rfl h
         | true =>
          rw [h9] at hde
          exact spm_run (nt := 121) 1000 [pk (bF_lss 3 x.node 0), pk (bF_geq 3 x.node (n : Nat)), pk (bF_lss 3 x.fst 0), pk (bF_lss 3 x.nxt 0), pk (bF_eql 3 x.fst x.nxt), ⟨.ix x.node i n, ⟨by omega, by omega⟩⟩, ⟨.part (flatR ((L).map (rowT c))) (i * 9 + 8) 1 [.b (.lit (.int .i64 ((tat L i).st)))], (sub_nd (c := c) (fo := 8) (n := 1) hi rfl)⟩, pk (b_neq 3 ((tat L i).st) 0 false (decide_eq_true h6)), pk (b_add 3 (n : Nat) 2 ⟨by omega, by omega⟩), pk (bF_gtr 3 ((n : Nat) + 2) 2000), pom [1] (hpa), pk (ln_len 37 44 3 k (by kernel_rfl)), pk (bF_geq 3 (k : Int) 32), pom [1] (hde)] (by kernel_rfl)
      ·rw [if_pos h6]
       exact spm_run (nt := 121) 1000 [pk (bF_lss 3 x.node 0), pk (bF_geq 3 x.node (n : Nat)), pk (bF_lss 3 x.fst 0), pk (bF_lss 3 x.nxt 0), pk (bF_eql 3 x.fst x.nxt), ⟨.ix x.node i n, ⟨by omega, by omega⟩⟩, ⟨.part (flatR ((L).map (rowT c))) (i * 9 + 8) 1 [.b (.lit (.int .i64 ((tat L i).st)))], (sub_nd (c := c) (fo := 8) (n := 1) hi rfl)⟩, pk (b_neq 3 ((tat L i).st) 0 true (decide_eq_false h6))] (by kernel_rfl)

theorem split_round0 (M : List Nd) (f : Bool) (z : Int) (n : Nat) (hn : M.length = n) (hl : n ≤ 2000) (x : Ch) (i : Nat) (hni : x.node = (i : Int)) (hi : i < M.length) : Rnd Try.prog I 121 (loopC Try.prog 31 0) ⟨[(0, .cv (.one (.ptr 0 0))), (3, .cv (.one (.ptr 3 0))), (86, .cv (.one (.sl 85))), (87, .cv (.one (.b (.lit (.int .i64 2))))), (88, .cv (.one (.b (.lit (.int .i64 0)))))], [(1, some ⟨46, some (9, n), flatR ((M).map (rowT c))⟩), (0, some ⟨24, none, [.sl 1, .b (.lit (.bool f)), .b (.lit (.int .i64 z))]⟩), (3, some ⟨36, none, [.b (.lit (.int .i64 x.kind)), .b (.lit (.int .i64 x.node)), .b (.it (fF c' 12 x.q)), .b (.lit (.int .i64 x.fst)), .b (.lit (.int .i64 x.nxt)), .b (.lit (.int .i64 x.cost))]⟩), (85, some ⟨4, some (1, 2), [.b (.lit (.bool true)), .b (.lit (.bool false))]⟩)], 100⟩ .normal ⟨[(0, .cv (.one (.ptr 0 0))), (3, .cv (.one (.ptr 3 0))), (86, .cv (.one (.sl 85))), (87, .cv (.one (.b (.lit (.int .i64 2))))), (88, .cv (.one (.b (.lit (.int .i64 1)))))], [(90, some ⟨46, some (9, n + 1), flatR ((M ++ [(⟨x.node, x.fst, x.nxt, true, (tat M i).q, 0⟩ : Nd)]).map (rowT c))⟩), (0, some ⟨24, none, [.sl 90, .b (.lit (.bool f)), .b (.lit (.int .i64 z))]⟩), (3, some ⟨36, none, [.b (.lit (.int .i64 x.kind)), .b (.lit (.int .i64 x.node)), .b (.it (fF c' 12 x.q)), .b (.lit (.int .i64 x.fst)), .b (.lit (.int .i64 x.nxt)), .b (.lit (.int .i64 x.cost))]⟩), (85, some ⟨4, some (1, 2), [.b (.lit (.bool true)), .b (.lit (.bool false))]⟩)], 100⟩ :=
 Rnd.nam [(90, 129)] (show Rnd _ _ _ _ _ _ ⟨[(0, .cv (.one (.ptr 0 0))), (3, .cv (.one (.ptr 3 0))), (86, .cv (.one (.sl 85))), (87, .cv (.one (.b (.lit (.int .i64 2))))), (88, .cv (.one (.b (.lit (.int .i64 1)))))], [(129, some ⟨46, some (9, n + 1), (flatR ((M).map (rowT c))) ++ ([.b (.lit (.int .i64 x.node)), .b (.lit (.int .i64 x.fst)), .b (.lit (.int .i64 x.nxt)), .b (.lit (.bool true)), .b (.it (fF c 12 ((tat M i).q))), .b (.lit (.int .i64 0))])⟩), (0, some ⟨24, none, [.sl 129, .b (.lit (.bool f)), .b (.lit (.int .i64 z))]⟩), (3, some ⟨36, none, [.b (.lit (.int .i64 x.kind)), .b (.lit (.int .i64 x.node)), .b (.it (fF c' 12 x.q)), .b (.lit (.int .i64 x.fst)), .b (.lit (.int .i64 x.nxt)), .b (.lit (.int .i64 x.cost))]⟩), (85, some ⟨4, some (1, 2), [.b (.lit (.bool true)), .b (.lit (.bool false))]⟩)], 135⟩ from rnd_run 1000 [pa, ⟨.ix 0 0 2, ⟨rfl, by omega⟩⟩, ⟨.ix x.node i n, ⟨by omega, by omega⟩⟩, ⟨.part (flatR ((M).map (rowT c))) (i * 9 + 4) 4 [.b (.it (fF c 12 (tat M i).q))], (sub_nd (c := c) (fo := 4) (n := 4) hi rfl)⟩, po (fresh_c (I := I) (c := c) (c' := c) (p := (tat M i).q)), ⟨.ap n 1 104, ⟨by omega, by simp [maxLen]; omega⟩⟩, pa] (by kernel_rfl)) (t := ⟨[(0, .cv (.one (.ptr 0 0))), (3, .cv (.one (.ptr 3 0))), (86, .cv (.one (.sl 85))), (87, .cv (.one (.b (.lit (.int .i64 2))))), (88, .cv (.one (.b (.lit (.int .i64 1)))))], [(90, some ⟨46, some (9, n + 1), flatR ((M ++ [(⟨x.node, x.fst, x.nxt, true, (tat M i).q, 0⟩ : Nd)]).map (rowT c))⟩), (0, some ⟨24, none, [.sl 90, .b (.lit (.bool f)), .b (.lit (.int .i64 z))]⟩), (3, some ⟨36, none, [.b (.lit (.int .i64 x.kind)), .b (.lit (.int .i64 x.node)), .b (.it (fF c' 12 x.q)), .b (.lit (.int .i64 x.fst)), .b (.lit (.int .i64 x.nxt)), .b (.lit (.int .i64 x.cost))]⟩), (85, some ⟨4, some (1, 2), [.b (.lit (.bool true)), .b (.lit (.bool false))]⟩)], 100⟩) ⟨rfl, TVle.refl, rfl, TVle.refl, rfl, TVle.refl, rfl, TVle.refl, rfl, TVle.refl, trivial⟩ ⟨rfl, rfl, rfl, ILe.eq (show (flatR ((M).map (rowT c))) ++ ([.b (.lit (.int .i64 x.node)), .b (.lit (.int .i64 x.fst)), .b (.lit (.int .i64 x.nxt)), .b (.lit (.bool true)), .b (.it (fF c 12 ((tat M i).q))), .b (.lit (.int .i64 0))]) = flatR ((M ++ [(⟨x.node, x.fst, x.nxt, true, (tat M i).q, 0⟩ : Nd)]).map (rowT c)) from by simp [flatR]), rfl, rfl, rfl, ILe.refl, rfl, rfl, rfl, ILe.refl, rfl, rfl, rfl, ILe.refl, trivial⟩
theorem split_round1 (M : List Nd) (f : Bool) (z : Int) (n : Nat) (hn : M.length = n) (hl : n ≤ 2001) (x : Ch) (i : Nat) (hni : x.node = (i : Int)) (hi : i < M.length) : Rnd Try.prog I 121 (loopC Try.prog 31 0) ⟨[(0, .cv (.one (.ptr 0 0))), (3, .cv (.one (.ptr 3 0))), (86, .cv (.one (.sl 85))), (87, .cv (.one (.b (.lit (.int .i64 2))))), (88, .cv (.one (.b (.lit (.int .i64 1)))))], [(90, some ⟨46, some (9, n), flatR ((M).map (rowT c))⟩), (0, some ⟨24, none, [.sl 90, .b (.lit (.bool f)), .b (.lit (.int .i64 z))]⟩), (3, some ⟨36, none, [.b (.lit (.int .i64 x.kind)), .b (.lit (.int .i64 x.node)), .b (.it (fF c' 12 x.q)), .b (.lit (.int .i64 x.fst)), .b (.lit (.int .i64 x.nxt)), .b (.lit (.int .i64 x.cost))]⟩), (85, some ⟨4, some (1, 2), [.b (.lit (.bool true)), .b (.lit (.bool false))]⟩)], 100⟩ .normal ⟨[(0, .cv (.one (.ptr 0 0))), (3, .cv (.one (.ptr 3 0))), (86, .cv (.one (.sl 85))), (87, .cv (.one (.b (.lit (.int .i64 2))))), (88, .cv (.one (.b (.lit (.int .i64 2)))))], [(90, some ⟨46, some (9, n + 1), flatR ((M ++ [(⟨x.node, x.fst, x.nxt, false, (tat M i).q, 0⟩ : Nd)]).map (rowT c))⟩), (0, some ⟨24, none, [.sl 90, .b (.lit (.bool f)), .b (.lit (.int .i64 z))]⟩), (3, some ⟨36, none, [.b (.lit (.int .i64 x.kind)), .b (.lit (.int .i64 x.node)), .b (.it (fF c' 12 x.q)), .b (.lit (.int .i64 x.fst)), .b (.lit (.int .i64 x.nxt)), .b (.lit (.int .i64 x.cost))]⟩), (85, some ⟨4, some (1, 2), [.b (.lit (.bool true)), .b (.lit (.bool false))]⟩)], 100⟩ :=
 Rnd.nam [(90, 129)] (show Rnd _ _ _ _ _ _ ⟨[(0, .cv (.one (.ptr 0 0))), (3, .cv (.one (.ptr 3 0))), (86, .cv (.one (.sl 85))), (87, .cv (.one (.b (.lit (.int .i64 2))))), (88, .cv (.one (.b (.lit (.int .i64 2)))))], [(129, some ⟨46, some (9, n + 1), (flatR ((M).map (rowT c))) ++ ([.b (.lit (.int .i64 x.node)), .b (.lit (.int .i64 x.fst)), .b (.lit (.int .i64 x.nxt)), .b (.lit (.bool false)), .b (.it (fF c 12 ((tat M i).q))), .b (.lit (.int .i64 0))])⟩), (0, some ⟨24, none, [.sl 129, .b (.lit (.bool f)), .b (.lit (.int .i64 z))]⟩), (3, some ⟨36, none, [.b (.lit (.int .i64 x.kind)), .b (.lit (.int .i64 x.node)), .b (.it (fF c' 12 x.q)), .b (.lit (.int .i64 x.fst)), .b (.lit (.int .i64 x.nxt)), .b (.lit (.int .i64 x.cost))]⟩), (85, some ⟨4, some (1, 2), [.b (.lit (.bool true)), .b (.lit (.bool false))]⟩)], 135⟩ from rnd_run 1000 [pa, ⟨.ix 1 1 2, ⟨rfl, by omega⟩⟩, ⟨.ix x.node i n, ⟨by omega, by omega⟩⟩, ⟨.part (flatR ((M).map (rowT c))) (i * 9 + 4) 4 [.b (.it (fF c 12 (tat M i).q))], (sub_nd (c := c) (fo := 4) (n := 4) hi rfl)⟩, po (fresh_c (I := I) (c := c) (c' := c) (p := (tat M i).q)), ⟨.ap n 1 104, ⟨by omega, by simp [maxLen]; omega⟩⟩, pa] (by kernel_rfl)) (t := ⟨[(0, .cv (.one (.ptr 0 0))), (3, .cv (.one (.ptr 3 0))), (86, .cv (.one (.sl 85))), (87, .cv (.one (.b (.lit (.int .i64 2))))), (88, .cv (.one (.b (.lit (.int .i64 2)))))], [(90, some ⟨46, some (9, n + 1), flatR ((M ++ [(⟨x.node, x.fst, x.nxt, false, (tat M i).q, 0⟩ : Nd)]).map (rowT c))⟩), (0, some ⟨24, none, [.sl 90, .b (.lit (.bool f)), .b (.lit (.int .i64 z))]⟩), (3, some ⟨36, none, [.b (.lit (.int .i64 x.kind)), .b (.lit (.int .i64 x.node)), .b (.it (fF c' 12 x.q)), .b (.lit (.int .i64 x.fst)), .b (.lit (.int .i64 x.nxt)), .b (.lit (.int .i64 x.cost))]⟩), (85, some ⟨4, some (1, 2), [.b (.lit (.bool true)), .b (.lit (.bool false))]⟩)], 100⟩) ⟨rfl, TVle.refl, rfl, TVle.refl, rfl, TVle.refl, rfl, TVle.refl, rfl, TVle.refl, trivial⟩ ⟨rfl, rfl, rfl, ILe.eq (show (flatR ((M).map (rowT c))) ++ ([.b (.lit (.int .i64 x.node)), .b (.lit (.int .i64 x.fst)), .b (.lit (.int .i64 x.nxt)), .b (.lit (.bool false)), .b (.it (fF c 12 ((tat M i).q))), .b (.lit (.int .i64 0))]) = flatR ((M ++ [(⟨x.node, x.fst, x.nxt, false, (tat M i).q, 0⟩ : Nd)]).map (rowT c)) from by simp [flatR]), rfl, rfl, rfl, ILe.refl, rfl, rfl, rfl, ILe.refl, rfl, rfl, rfl, ILe.refl, trivial⟩
end
end Go.Proofs.Ytflajoflpkboiaa
