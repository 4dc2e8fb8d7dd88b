/- Texts of one proof, put together by a program: each lemma is proved for all values of its variables, under the premises that it states. -/
import Derived.Lib.ItoaNum
import Derived.Test.YtdgbealknnmkoaaGreatDoorP2d4812f5
set_option linter.unusedVariables false
set_option linter.unusedSimpArgs false
namespace Go.Proofs.YtdgbealknnmkoaaGreatDoor
def dec (n:Nat):List Nat:=(Lib.decDigits n).map UInt8.toNat
theorem Aao (n:Nat):AM (dec n)=⟨(Lib.decDigits n).toArray⟩:=by
 unfold AM dec;simp[List.map_map,Function.comp_def]
theorem C4 {n:Nat}(h:n < 10):dec n=[48+n]:=by
 unfold dec;rw[Lib.decDigits_one h];simp;omega
theorem Ge {n:Nat}(h:10≤n):dec n=dec (n / 10)++[48+n % 10]:=by
 unfold dec;rw[Lib.decDigits,dif_neg (by omega)]
 simp;omega
theorem Aaq (n:Nat):(dec n).length=Lib.nDigits n:=by unfold dec;rw[List.length_map,Lib.decDigits_length]
theorem LC (n:Nat):1≤(dec n).length:=by rw[Aaq];exact Lib.nDigits_pos n
theorem FA (n:Nat) : ∀ x∈dec n,48≤x∧x≤57:=by
 induction n using Nat.strongRecOn with
 | _ n ih =>
  intro x hx;by_cases h:n < 10
  ·rw[C4 h] at hx;simp at hx;omega
  ·rw[Ge (by omega)] at hx
   rcases List.mem_append.1 hx with h1 | h1
   ·exact ih (n / 10) (by omega) x h1
   ·simp at h1;omega
theorem KK (n:Nat) : ∀ x∈dec n,x < 256:=fun x hx=>by have:=FA n x hx;omega
theorem Jk {n k:Nat}(h:n < 10 ^ (k+1)):(dec n).length≤k+1:=by
 induction k generalizing n with
 | zero=>rw[C4 (by simpa using h)];simp
 | succ k ih =>
  by_cases h2:n < 10
  ·rw[C4 h2];simp
  ·rw[Ge (by omega),List.length_append]
   have:=ih (n:=n / 10) (by rw[Nat.pow_succ] at h;omega)
   simp;omega
def pad (k n:Nat):List Nat:=match k with
 | 0=>[]
 | k+1=>pad k (n / 10)++[48+n % 10]
theorem ZA (k n:Nat):(pad k n).length=k:=by
 induction k generalizing n with
 | zero=>rfl
 | succ k ih=>simp[pad,ih]
theorem Xr (k:Nat):pad k 0=List.replicate k 48:=by
 induction k with
 | zero=>rfl
 | succ k ih=>rw[pad,Nat.zero_div,ih,List.replicate_succ']
theorem Aap (k:Nat) : ∀ n,10 ^ k≤n→dec n=dec (n / 10 ^ k)++pad k (n % 10 ^ k):=by
 induction k with
 | zero=>intro n _;simp[pad]
 | succ k ih =>
  intro n h;have h1:10 ^ k≥1:=Nat.one_le_pow _ _ (by omega)
  have e:(10:Nat) ^ (k+1)=10*10 ^ k:=by rw[Nat.pow_succ,Nat.mul_comm]
  rw[e] at h;rw[Ge (by omega),ih (n / 10) (by omega),pad,List.append_assoc]
  rw[e,Nat.div_div_eq_div_mul,Nat.mod_mul_right_div_self,Nat.mod_mul_right_mod]
theorem ZB (k:Nat) : ∀ n,n < 10 ^ (k+1)→pad (k+1) n=List.replicate (k+1 - (dec n).length) 48++dec n:=by
 induction k with
 | zero =>
  intro n h;have h':n < 10:=by simpa using h
  rw[C4 h',pad,pad];simp;omega
 | succ k ih =>
  intro n h;by_cases h2:n < 10
  ·rw[C4 h2,pad,show n / 10=0 by omega,Xr]
   simp;omega
  ·rw[pad,ih (n / 10) (by rw[Nat.pow_succ] at h;omega),Ge (by omega:10≤n),←List.append_assoc]
   simp
def Dy (n:Nat):List Nat:=if n=0 then [] else (n % 1000000000)::Dy (n / 1000000000)
 termination_by n
 decreasing_by omega
theorem Ds:Dy 0=[]:=by rw[Dy,if_pos rfl]
theorem DB {n:Nat}(h:n≠0):Dy n=(n % 1000000000)::Dy (n / 1000000000):=by rw[Dy,if_neg h]
theorem NM (n:Nat) : ∀ x∈Dy n,x < 1000000000:=by
 induction n using Nat.strongRecOn with
 | _ n ih =>
  by_cases h:n=0
  ·subst h;rw[Ds];simp
  ·rw[DB h]
   intro x hx;rcases List.mem_cons.1 hx with rfl | hx
   ·omega
   ·exact ih (n / 1000000000) (by omega) x hx
theorem Sk {n k:Nat}(h:n < 1000000000 ^ k):(Dy n).length≤k:=by
 induction k generalizing n with
 | zero =>
  have:n=0:=by simpa using h
  subst this;rw[Ds];simp
 | succ k ih =>
  by_cases h0:n=0
  ·subst h0;rw[Ds];simp
  ·rw[DB h0,List.length_cons]
   have:=ih (n:=n / 1000000000) (by rw[Nat.pow_succ] at h;omega)
   omega
theorem AcQ (n:Nat):4294967296 ^ n≤1000000000 ^ (2*n):=by
 rw[Nat.pow_mul];exact Nat.pow_le_pow_left (by decide) n
theorem Hq (n:Nat):(Dy n).length≤2*(Ae n).length:=Sk (Nat.lt_of_lt_of_le (Ca n) (AcQ _))
def txt:List Nat→List Nat
 | []=>[]
 | p::ps=>match ps with
  | []=>dec p
  | _::_=>txt ps++pad 9 p
theorem O6 (p:Nat):txt [p]=dec p:=by rw[txt]
theorem LQ (p:Nat)(ps:List Nat)(h:ps≠[]):txt (p::ps)=txt ps++pad 9 p:=by
 cases ps with
 | nil=>exact absurd rfl h
 | cons q qs=>rw[txt]
theorem LP (n:Nat)(h0:n≠0):txt (Dy n)=dec n:=by
 induction n using Nat.strongRecOn with
 | _ n ih =>
  rw[DB h0];by_cases h:n / 1000000000=0
  ·rw[h,Ds,O6,Nat.mod_eq_of_lt (by omega)]
  ·rw[LQ _ _ (by rw[DB h];simp),ih _ (by omega) h,Aap 9 n (by omega)]
theorem O7 (ps:List Nat)(h : ∀ x∈ps,x < 1000000000):(txt ps).length≤9*ps.length:=by
 induction ps with
 | nil=>simp[txt]
 | cons p ps ih =>
  cases ps with
  | nil=>rw[O6];have:=Jk (n:=p) (k:=8) (h p (by simp));simp;omega
  | cons q qs =>
   rw[LQ _ _ (by simp),List.length_append,ZA]
   have:=ih (fun x hx=>h x (by simp[hx]))
   simp at this ⊢;omega
theorem PV (ps:List Nat)(j:Nat)(hj:j < ps.length)(hp:ps.getD j 0 < 1000000000) :
  txt (ps.drop j)=txt (ps.drop (j+1))++(List.replicate (if j+1 < ps.length then 9 - (dec (ps.getD j 0)).length else 0) 48++dec (ps.getD j 0)):=by
 rw[BJ ps j hj];by_cases h:j+1 < ps.length
 ·rw[if_pos h,LQ _ _ (fun e=>by have:=congrArg List.length e;simp at this;omega),ZB 8 _ hp]
 ·rw[if_neg h,List.drop_of_length_le (by omega),O6]
  simp[txt]
def Dl (neg:Bool)(n:Nat):List Nat:=(if neg=true∧n≠0 then [45] else [])++dec n
theorem F9 (neg:Bool):Dl neg 0=[48]:=by unfold Dl;rw[if_neg (by simp),C4 (by omega)];rfl
end Go.Proofs.YtdgbealknnmkoaaGreatDoor
