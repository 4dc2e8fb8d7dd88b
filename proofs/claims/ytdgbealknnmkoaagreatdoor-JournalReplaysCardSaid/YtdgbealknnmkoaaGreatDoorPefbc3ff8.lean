/- Texts of one proof, put together by a program: each lemma is proved for all values of its variables, under the premises that it states. -/
import Derived.Lib.ItoaNum
import Derived.Test.YtdgbealknnmkoaaGreatDoorPe02d371f
set_option linter.unusedVariables false
set_option linter.unusedSimpArgs false
namespace Go.Proofs.YtdgbealknnmkoaaGreatDoor
def dec (n:Nat):List Nat:=(Lib.decDigits n).map UInt8.toNat
theorem AbO (n:Nat):AM (dec n)=⟨(Lib.decDigits n).toArray⟩:=by
 unfold AM dec;simp[List.map_map,Function.comp_def]
theorem CG {n:Nat}(h:n < 10):dec n=[48+n]:=by
 unfold dec;rw[Lib.decDigits_one h];simp;omega
theorem Gt {n:Nat}(h:10≤n):dec n=dec (n / 10)++[48+n % 10]:=by
 unfold dec;rw[Lib.decDigits,dif_neg (by omega)]
 simp;omega
theorem AbQ (n:Nat):(dec n).length=Lib.nDigits n:=by unfold dec;rw[List.length_map,Lib.decDigits_length]
theorem Mo (n:Nat):1≤(dec n).length:=by rw[AbQ];exact Lib.nDigits_pos n
theorem FQ (n:Nat) : ∀ x∈dec n,48≤x∧x≤57:=by
 induction n using Nat.strongRecOn with
 | _ n ih =>
  intro x hx;by_cases h:n < 10
  ·rw[CG h] at hx;simp at hx;omega
  ·rw[Gt (by omega)] at hx
   rcases List.mem_append.1 hx with h1 | h1
   ·exact ih (n / 10) (by omega) x h1
   ·simp at h1;omega
theorem Lh (n:Nat) : ∀ x∈dec n,x < 256:=fun x hx=>by have:=FQ n x hx;omega
theorem J7 {n k:Nat}(h:n < 10 ^ (k+1)):(dec n).length≤k+1:=by
 induction k generalizing n with
 | zero=>rw[CG (by simpa using h)];simp
 | succ k ih =>
  by_cases h2:n < 10
  ·rw[CG h2];simp
  ·rw[Gt (by omega),List.length_append]
   have:=ih (n:=n / 10) (by rw[Nat.pow_succ] at h;omega)
   simp;omega
def pad (k n:Nat):List Nat:=match k with
 | 0=>[]
 | k+1=>pad k (n / 10)++[48+n % 10]
theorem Abg (k n:Nat):(pad k n).length=k:=by
 induction k generalizing n with
 | zero=>rfl
 | succ k ih=>simp[pad,ih]
theorem YJ (k:Nat):pad k 0=List.replicate k 48:=by
 induction k with
 | zero=>rfl
 | succ k ih=>rw[pad,Nat.zero_div,ih,List.replicate_succ']
theorem AbP (k:Nat) : ∀ n,10 ^ k≤n→dec n=dec (n / 10 ^ k)++pad k (n % 10 ^ k):=by
 induction k with
 | zero=>intro n _;simp[pad]
 | succ k ih =>
  intro n h;have h1:10 ^ k≥1:=Nat.one_le_pow _ _ (by omega)
  have e:(10:Nat) ^ (k+1)=10*10 ^ k:=by rw[Nat.pow_succ,Nat.mul_comm]
  rw[e] at h;rw[Gt (by omega),ih (n / 10) (by omega),pad,List.append_assoc]
  rw[e,Nat.div_div_eq_div_mul,Nat.mod_mul_right_div_self,Nat.mod_mul_right_mod]
theorem Abh (k:Nat) : ∀ n,n < 10 ^ (k+1)→pad (k+1) n=List.replicate (k+1 - (dec n).length) 48++dec n:=by
 induction k with
 | zero =>
  intro n h;have h':n < 10:=by simpa using h
  rw[CG h',pad,pad];simp;omega
 | succ k ih =>
  intro n h;by_cases h2:n < 10
  ·rw[CG h2,pad,show n / 10=0 by omega,YJ]
   simp;omega
  ·rw[pad,ih (n / 10) (by rw[Nat.pow_succ] at h;omega),Gt (by omega:10≤n),←List.append_assoc]
   simp
def DF (n:Nat):List Nat:=if n=0 then [] else (n % 1000000000)::DF (n / 1000000000)
 termination_by n
 decreasing_by omega
theorem D5:DF 0=[]:=by rw[DF,if_pos rfl]
theorem DW {n:Nat}(h:n≠0):DF n=(n % 1000000000)::DF (n / 1000000000):=by rw[DF,if_neg h]
theorem OF (n:Nat) : ∀ x∈DF n,x < 1000000000:=by
 induction n using Nat.strongRecOn with
 | _ n ih =>
  by_cases h:n=0
  ·subst h;rw[D5];simp
  ·rw[DW h]
   intro x hx;rcases List.mem_cons.1 hx with rfl | hx
   ·omega
   ·exact ih (n / 1000000000) (by omega) x hx
theorem Tk {n k:Nat}(h:n < 1000000000 ^ k):(DF n).length≤k:=by
 induction k generalizing n with
 | zero =>
  have:n=0:=by simpa using h
  subst this;rw[D5];simp
 | succ k ih =>
  by_cases h0:n=0
  ·subst h0;rw[D5];simp
  ·rw[DW h0,List.length_cons]
   have:=ih (n:=n / 1000000000) (by rw[Nat.pow_succ] at h;omega)
   omega
theorem Ae9 (n:Nat):4294967296 ^ n≤1000000000 ^ (2*n):=by
 rw[Nat.pow_mul];exact Nat.pow_le_pow_left (by decide) n
theorem Ji (n:Nat):(DF n).length≤2*(Ad n).length:=Tk (Nat.lt_of_lt_of_le (Cm n) (Ae9 _))
def txt:List Nat→List Nat
 | []=>[]
 | p::ps=>match ps with
  | []=>dec p
  | _::_=>txt ps++pad 9 p
theorem Py (p:Nat):txt [p]=dec p:=by rw[txt]
theorem M5 (p:Nat)(ps:List Nat)(h:ps≠[]):txt (p::ps)=txt ps++pad 9 p:=by
 cases ps with
 | nil=>exact absurd rfl h
 | cons q qs=>rw[txt]
theorem M4 (n:Nat)(h0:n≠0):txt (DF n)=dec n:=by
 induction n using Nat.strongRecOn with
 | _ n ih =>
  rw[DW h0];by_cases h:n / 1000000000=0
  ·rw[h,D5,Py,Nat.mod_eq_of_lt (by omega)]
  ·rw[M5 _ _ (by rw[DW h];simp),ih _ (by omega) h,AbP 9 n (by omega)]
theorem Pz (ps:List Nat)(h : ∀ x∈ps,x < 1000000000):(txt ps).length≤9*ps.length:=by
 induction ps with
 | nil=>simp[txt]
 | cons p ps ih =>
  cases ps with
  | nil=>rw[Py];have:=J7 (n:=p) (k:=8) (h p (by simp));simp;omega
  | cons q qs =>
   rw[M5 _ _ (by simp),List.length_append,Abg]
   have:=ih (fun x hx=>h x (by simp[hx]))
   simp at this ⊢;omega
theorem QN (ps:List Nat)(j:Nat)(hj:j < ps.length)(hp:ps.getD j 0 < 1000000000) :
  txt (ps.drop j)=txt (ps.drop (j+1))++(List.replicate (if j+1 < ps.length then 9 - (dec (ps.getD j 0)).length else 0) 48++dec (ps.getD j 0)):=by
 rw[BP ps j hj];by_cases h:j+1 < ps.length
 ·rw[if_pos h,M5 _ _ (fun e=>by have:=congrArg List.length e;simp at this;omega),Abh 8 _ hp]
 ·rw[if_neg h,List.drop_of_length_le (by omega),Py]
  simp[txt]
def Dz (neg:Bool)(n:Nat):List Nat:=(if neg=true∧n≠0 then [45] else [])++dec n
theorem FP (neg:Bool):Dz neg 0=[48]:=by unfold Dz;rw[if_neg (by simp),CG (by omega)];rfl
end Go.Proofs.YtdgbealknnmkoaaGreatDoor
