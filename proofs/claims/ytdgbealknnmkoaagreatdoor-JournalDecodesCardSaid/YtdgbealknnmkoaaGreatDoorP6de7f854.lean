/- Texts of one proof, put together by a program: each lemma is proved for all values of its variables, under the premises that it states. -/
import Derived.Test.YtdgbealknnmkoaaGreatDoorP5f75155c
import Derived.Test.YtdgbealknnmkoaaGreatDoorPf60c83c6
set_option linter.unusedVariables false
set_option linter.unusedSimpArgs false
namespace Go.Proofs.YtdgbealknnmkoaaGreatDoor
open Go.RowKit
def nd (l:List Nat):Nat:=l.foldl (fun a c=>a*10+(c - 48)) 0
theorem AbO:nd []=0:=rfl
theorem L5 (l:List Nat)(c:Nat):nd (l++[c])=nd l*10+(c - 48):=by simp[nd,List.foldl_append]
theorem ZK (l:List Nat) : ∀ a,l.foldl (fun a c=>a*10+(c - 48)) a=a*10 ^ l.length+nd l:=by
 induction l with
 | nil=>intro a;simp[nd]
 | cons c l ih =>
  intro a;have e:nd (c::l)=l.foldl (fun a c=>a*10+(c - 48)) (0*10+(c - 48)):=rfl
  rw[e,List.foldl_cons,List.length_cons,ih,ih (0*10+(c - 48)),Nat.pow_succ];generalize 10 ^ l.length=P;generalize c - 48=d
  grind
theorem K7 (xs ys:List Nat):nd (xs++ys)=nd xs*10 ^ ys.length+nd ys:=by
 unfold nd;rw[List.foldl_append];exact ZK ys _
def okD (l:List Nat):Prop := ∀ c∈l,48≤c∧c≤57
theorem okD.getD {l:List Nat}(h:okD l){k:Nat}(hk:k < l.length):48≤l.getD k 0∧l.getD k 0≤57:=by
 rw[List.getD_eq_getElem?_getD,List.getElem?_eq_getElem hk];exact h _ (List.getElem_mem hk)
theorem okD.take {l:List Nat}(h:okD l)(k:Nat):okD (l.take k):=fun c hc=>h c (List.mem_of_mem_take hc)
theorem okD.drop {l:List Nat}(h:okD l)(k:Nat):okD (l.drop k):=fun c hc=>h c (List.mem_of_mem_drop hc)
theorem OX {l:List Nat}(h : ∀ k,k < l.length→48≤l.getD k 0∧l.getD k 0≤57):okD l:=by
 intro c hc;obtain ⟨k,hk,rfl⟩:=List.mem_iff_getElem.1 hc;have:=h k hk
 rwa [List.getD_eq_getElem?_getD,List.getElem?_eq_getElem hk] at this
theorem QB : ∀ (n:Nat) (l:List Nat),l.length=n→okD l→nd l < 10 ^ n:=by
 intro n;induction n with
 | zero=>intro l h _;obtain rfl:=List.eq_nil_of_length_eq_zero h;decide
 | succ n ih =>
  intro l h hd;have e:l=l.take n++[l.getD n 0]:=by
   rw[←Cy l n (by omega),List.take_of_length_le (by omega)]
  have h1:=ih (l.take n) (by rw[List.length_take];omega) (hd.take n)
  have h2:=hd.getD (k:=n) (by omega)
  rw[e,L5,Nat.pow_succ];omega
theorem H9 (n:Nat):nd (dec n)=n:=by
 induction n using Nat.strongRecOn with
 | ind n ih =>
  by_cases h:n < 10
  ·rw[C4 h];simp[nd]
  ·rw[Ge (by omega),L5,ih (n / 10) (by omega)];omega
theorem JE (l:List Nat)(k:Nat)(h:k < l.length):nd (l.take (k+1))=nd (l.take k)*10+(l.getD k 0 - 48):=by
 rw[Cy l k h,L5]
def Hi (l:List Nat):Prop:=l≠[]∧okD l ∧ ¬ (l.getD 0 0=48∧1 < l.length)
def CP (neg:Bool)(l:List Nat):Prop:=Hi l ∧ ¬ (neg=true∧l=[48])
def BD (l:List Nat):Bool:=l.getD 0 0 == 45
def Bi (l:List Nat):List Nat:=if BD l then l.drop 1 else l
def PA (l:List Nat)(z code:Int):Prop :=
 (400 < l.length∧code=10∧z=0)∨(l.length≤400∧CP (BD l) (Bi l)∧code=0∧z=sgn (BD l) (nd (Bi l)))∨(l.length≤400 ∧ ¬ CP (BD l) (Bi l)∧code=1∧z=0)
theorem LG {neg:Bool}{l:List Nat}(h:l.length=0) : ¬ CP neg l:=fun g=>g.1.1 (List.eq_nil_of_length_eq_zero h)
theorem MU {neg:Bool}{l:List Nat}(h:l.getD 0 0=48)(h1:1 < l.length∨neg=true) : ¬ CP neg l:=by
 intro g;rcases Nat.lt_trichotomy l.length 1 with h2 | h2 | h2
 ·exact LG (by omega) g
 ·refine g.2 ⟨by rcases h1 with h1 | h1;omega;exact h1,?_⟩
  match l,h2 with
  | [x],_=>simp at h;rw[h]
 ·exact g.1.2.2 ⟨h,h2⟩
theorem Eu {neg:Bool}{l:List Nat}{k:Nat}(hk:k < l.length)(h:l.getD k 0 < 48∨57 < l.getD k 0) : ¬ CP neg l:=by
 intro g;have:=g.1.2.1.getD hk;omega
theorem JM {neg:Bool}{l:List Nat}(h0:0 < l.length)(hd:okD l)(h : ¬ (l.getD 0 0=48∧(1 < l.length∨neg=true))):CP neg l:=by
 refine ⟨⟨fun e=>by rw[e] at h0;simp at h0,hd,fun g=>h ⟨g.1,.inl g.2⟩⟩,?_⟩
 rintro ⟨h1,rfl⟩;exact h ⟨rfl,.inr h1⟩
theorem Yu (n:Nat)(h:n≠0):(dec n).getD 0 0≠48:=by
 induction n using Nat.strongRecOn with
 | ind n ih =>
  by_cases h1:n < 10
  ·rw[C4 h1];simp;omega
  ·have:=ih (n / 10) (by omega) (by omega)
   rw[Ge (by omega),List.getD_eq_getElem?_getD,List.getElem?_append_left (LC (n / 10)),←List.getD_eq_getElem?_getD]
   exact this
theorem Rw (neg:Bool)(n:Nat)(h:n≠0∨neg=false):CP neg (dec n):=by
 by_cases h0:n=0
 ·subst h0
  obtain rfl:neg=false:=by rcases h with h | h;exact absurd rfl h;exact h
  exact JM (LC 0) (FA 0) (by rw[C4 (by omega)];simp)
 ·exact JM (LC n) (FA n) (fun g=>Yu n h0 g.1)
theorem VF (n:Nat):(dec n).getD 0 0≠45:=by
 have:=(show okD (dec n) from FA n).getD (k:=0) (LC n);omega
theorem Vl (s:Bool)(n:Nat):BD (Dl s n)=(s&&decide (n≠0))∧Bi (Dl s n)=dec n:=by
 have h0:=VF n;by_cases h:s=true∧n≠0
 ·have e:Dl s n=45::dec n:=by unfold Dl;rw[if_pos h];rfl
  obtain ⟨h1,h2⟩:=h;subst h1;rw[e];simp[BD,Bi,h2]
 ·have e:Dl s n=dec n:=by unfold Dl;rw[if_neg h];rfl
  have h3:BD (dec n)=false:=by unfold BD;simpa using h0
  rw[e];refine ⟨?_,by unfold Bi;rw[h3];rfl⟩
  rw[h3];cases s
  ·simp
  ·have:n=0:=by
    by_cases hn:n=0
    ·exact hn
    ·exact absurd ⟨rfl,hn⟩ h
   simp[this]
theorem AaH (s:Bool)(n:Nat)(h:(Dl s n).length≤400):PA (Dl s n) (sgn s n) 0:=by
 obtain ⟨h1,h2⟩:=Vl s n;refine .inr (.inl ⟨h,?_,rfl,?_⟩)
 ·rw[h1,h2]
  refine Rw _ n ?_;by_cases hn:n=0
  ·right;simp[hn]
  ·exact .inl hn
 ·rw[h1,h2,H9]
  by_cases hn:n=0
  ·subst hn;cases s <;> simp[sgn]
  ·simp[hn]
end Go.Proofs.YtdgbealknnmkoaaGreatDoor
