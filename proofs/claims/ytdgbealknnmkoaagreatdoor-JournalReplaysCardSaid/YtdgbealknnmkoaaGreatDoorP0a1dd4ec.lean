/- Texts of one proof, put together by a program: each lemma is proved for all values of its variables, under the premises that it states. -/
import Derived.ChangeOld
import Derived.OpenShut
import Derived.ProofKit
import Derived.ShutString
import Derived.Test.YtdgbealknnmkoaaGreatDoorP4d843d9a
set_option linter.unusedVariables false
set_option linter.unusedSimpArgs false
namespace Go.Proofs.YtdgbealknnmkoaaGreatDoor
open Go Go.RowKit
structure Lq (q:Rat) (k:Nat):Prop where
 n:Lim k q.num
 d:Lim k (q.den:Int)
 k0:0 < k
theorem Fk.lq {q1 q2:IntP}{n d:Int}{k:Nat}(h:Fk q1 q2 n d k):Lq (Rat.divInt n d) k:=⟨(Ac9 h).1,(Ac9 h).2,h.k0⟩
theorem Lq.add {p q:Rat}{k j:Nat}(h:Lq p k)(h':Lq q j):Lq (p+q) (k+j+1):=by
 have e:=Md (a:=p.num) (b:=p.den) (c:=q.num) (d:=q.den) (by have:=Kv p;omega) (by have:=Kv q;omega)
 rw[BB,BB] at e;rw[←e];exact ⟨Eg ((h.n.mul h'.d).add ((h'.n.mul h.d).mono (by omega))),E0 ((h.d.mul h'.d).mono (by omega)) (by omega),by omega⟩
theorem Lq.neg {p:Rat}{k:Nat}(h:Lq p k):Lq (-p) k:=⟨by rw[Rat.neg_num];exact h.n.neg,by rw[Rat.neg_den];exact h.d,h.k0⟩
theorem Lq.int {z:Int}{k:Nat}(h:Lim k z)(k0:0 < k):Lq (z:Rat) k:=⟨h,Ft k0,k0⟩
abbrev Fg:=Dg×Dg
abbrev W2 (p:Fg):Prop:=W32 p.1.2∧W32 p.2.2
abbrev tS (xs:List Nat):TV:=BA (.string (AM xs))
abbrev cS (xs:List Nat):CT := .one (.b (.lit (.string (AM xs))))
abbrev cu (x:Nat):CT := .one (.b (.lit (.int .u8 (x:Int))))
def B8 (xs:List Nat):Prop := ∀ x∈xs,x < 256
theorem B8.app {xs ys:List Nat}(h:B8 xs)(h':B8 ys):B8 (xs++ys):=fun x hx=>(List.mem_append.1 hx).elim (h x) (h' x)
theorem B8.take {xs:List Nat}(h:B8 xs)(n:Nat):B8 (xs.take n):=fun x hx=>h x (List.mem_of_mem_take hx)
theorem B8.drop {xs:List Nat}(h:B8 xs)(n:Nat):B8 (xs.drop n):=fun x hx=>h x (List.mem_of_mem_drop hx)
theorem B8.getD {xs:List Nat}(h:B8 xs)(i:Nat):xs.getD i 0 < 256:=by
 rw[List.getD_eq_getElem?_getD];cases hx:xs[i]? with
 | none=>simp
 | some x=>exact h x (List.mem_of_getElem? hx)
theorem B8.bo {xs:List Nat}(h:B8 xs):bytesOf (AM xs)=xs:=F7 xs h
theorem Cp (xs:List Nat):(AM xs).data.toList=xs.map UInt8.ofNat:=by simp[AM]
theorem SM (xs:List Nat)(n:Nat):(AM xs).extract 0 n=AM (xs.take n):=by
 rw[Lib.extract_eq,Cp];simp[AM,List.map_take]
theorem SN (xs:List Nat)(n:Nat):(AM xs).extract n xs.length=AM (xs.drop n):=by
 rw[Lib.extract_eq,Cp];simp only[AM,List.drop_zero,Nat.sub_zero,List.map_drop];rw[List.take_of_length_le (by simp)]
theorem Tn {a b:Nat}(ha:a < 256)(hb:b < 256):UInt8.ofNat a=UInt8.ofNat b↔a=b:=by
 constructor
 ·intro h
  have h:=congrArg UInt8.toNat h;simp only[UInt8.toNat_ofNat'] at h;omega
 ·intro h;rw[h]
theorem O5 {xs ys:List Nat}(hx:B8 xs)(hy:B8 ys):AM xs=AM ys↔xs=ys:=by
 constructor
 ·intro h
  have:=congrArg bytesOf h
  rwa [hx.bo,hy.bo] at this
 ·intro h;rw[h]
theorem M8 {a b:ByteArray}:a.toList=b.toList↔a=b:=by
 constructor
 ·intro h
  rw[ByteArray.toList_eq,ByteArray.toList_eq] at h;exact ByteArray.ext (Array.ext' h)
 ·intro h;rw[h]
def Dj (c:Nat):List Nat→Option Nat
 | []=>none
 | x::l=>if x=c then some 0 else (Dj c l).map (· + 1)
theorem Hy {c:Nat} : ∀ {xs:List Nat} {i:Nat},Dj c xs=some i→i < xs.length∧xs.getD i 0=c ∧ ∀ j,j < i→xs.getD j 0≠c
 | [],i,h=>by cases h
 | x::l,i,h=>by
  unfold Dj at h;by_cases hx:x=c
  ·rw[if_pos hx] at h
   injection h with h;subst h;exact ⟨by simp,by simpa using hx,fun j hj=>by omega⟩
  ·rw[if_neg hx] at h
   obtain ⟨k,hk,rfl⟩:=Option.map_eq_some_iff.1 h;obtain ⟨h1,h2,h3⟩:=Hy hk;refine ⟨by simp;omega,by simpa using h2,fun j hj => ?_⟩
   cases j with
   | zero=>simpa using hx
   | succ j=>simpa using h3 j (by omega)
theorem OR {c:Nat} : ∀ {xs:List Nat},Dj c xs=none → ∀ j,j < xs.length→xs.getD j 0≠c
 | [],h,j,hj=>by simp at hj
 | x::l,h,j,hj=>by
  unfold Dj at h;by_cases hx:x=c
  ·rw[if_pos hx] at h;cases h
  ·rw[if_neg hx,Option.map_eq_none_iff] at h
   cases j with
   | zero=>simpa using hx
   | succ j=>simpa using OR h j (by simpa using hj)
theorem RU {c:Nat} : ∀ {xs ys:List Nat},(∀ x∈xs,x≠c)→Dj c (xs++c::ys)=some xs.length
 | [],ys,h=>by simp[Dj]
 | x::l,ys,h=>by
  have hx:=h x (by simp)
  rw[List.cons_append,Dj,if_neg hx,RU fun y hy=>h y (by simp[hy])]
  rfl
theorem Qn {c:Nat} : ∀ {xs:List Nat},(∀ x∈xs,x≠c)→Dj c xs=none
 | [],h=>rfl
 | x::l,h=>by
  rw[Dj,if_neg (h x (by simp)),Qn fun y hy=>h y (by simp[hy])]
  rfl
theorem Np {c:Nat}(hc:c < 256) : ∀ {xs:List Nat},B8 xs→Lib.index (xs.map UInt8.ofNat) [UInt8.ofNat c]=match Dj c xs with | some i=>(i:Int) | none => -1
 | [],h=>rfl
 | x::l,h=>by
  have ih:=Np hc (xs:=l) fun y hy=>h y (by simp[hy])
  rw[Lib.index_one] at ih ⊢;simp only[List.map_cons,Lib.indexByte];unfold Dj;by_cases hx:x=c
  ·subst hx;simp
  ·have:(UInt8.ofNat x == UInt8.ofNat c)=false:=by
    rw[beq_eq_false_iff_ne];exact fun h'=>hx ((Tn (h x (by simp)) hc).1 h')
   rw[this,if_neg hx];rw[ih];cases Dj c l with
   | none=>simp
   | some i =>
    simp only[Option.map_some];have:((i:Int) == -1)=false:=by rw[beq_eq_false_iff_ne];omega
    simp[this]
section
variable {P:Program}
theorem Bg (t ty:TypeId)(xs:List Nat)(ht:P.underlying t=some .string:=by kernel_rfl):Bh P (.len #[t] ty) [tS xs] (li xs.length):=B6 (vs:=[.string (AM xs)]) fun w=>by
 simp[OpK.run,Builtin.len_,AE ht,goInt,BI]
theorem GA (t:TypeId)(xs ys:List Nat)(h:xs.length+ys.length≤9223372036854775807):Bh P (.bin .add t) [tS xs,tS ys] (tS (xs++ys)):=by
 have:=Ae0 (P:=P) t (AM xs) (AM ys) (by rw[BI,BI];exact h)
 rw[←PD] at this;exact this
theorem Uk (t:TypeId)(xs:List Nat)(n:Nat)(z:Int)(hz:z=(n:Int))(hn:n≤xs.length)(ht:P.underlying t=some .string:=by kernel_rfl):Bh P (.slc t false true false) [tS xs,li z] (tS (xs.take n)):=B6 (vs:=[.string (AM xs),.int .i64 z]) fun w=>by
 subst hz;simp[OpK.run,Instr.sliceAt,Instr.slice,Instr.sliceBounds,Instr.sliceBound,asIntOf,AE ht,BI,hn,SM]
theorem AaF (t:TypeId)(xs:List Nat)(n:Nat)(z:Int)(hz:z=(n:Int))(hn:n≤xs.length)(ht:P.underlying t=some .string:=by kernel_rfl):Bh P (.slc t true false false) [tS xs,li z] (tS (xs.drop n)):=B6 (vs:=[.string (AM xs),.int .i64 z]) fun w=>by
 subst hz;simp[OpK.run,Instr.sliceAt,Instr.slice,Instr.sliceBounds,Instr.sliceBound,asIntOf,AE ht,BI,hn,SN]
theorem DB (t:TypeId)(xs:List Nat)(i:Nat)(z:Int)(hz:z=(i:Int))(hi:i < xs.length)(hx:B8 xs)(ht:P.underlying t=some .string:=by kernel_rfl):Bh P (.idx t) [tS xs,li z] (BA (.int .u8 ((xs.getD i 0:Nat):Int))):=B6 (vs:=[.string (AM xs),.int .i64 z]) fun w=>by
 subst hz;have e:(AM xs)[i]? = some (UInt8.ofNat (xs.getD i 0)):=by
  show (AM xs).data[i]? = _;rw[←Array.getElem?_toList,Cp,List.getElem?_map,List.getD_eq_getElem?_getD,List.getElem?_eq_getElem hi]
  rfl
 have hb:=hx.getD i;generalize xs.getD i 0=a at *;simp[OpK.run,Instr.index,asIntOf,AE ht,e];omega
theorem XA (t:TypeId)(xs ys:List Nat)(b:Bool)(h:decide (xs=ys)=b)(hx:B8 xs)(hy:B8 ys):Bh P (.bin .eql t) [tS xs,tS ys] (lb b):=Aez t _ _ b (by
 subst h;by_cases h:xs=ys
 ·subst h;simp
 ·rw[decide_eq_false h,beq_eq_false_iff_ne]
  exact fun h'=>h ((O5 hx hy).1 (M8.1 h')))
theorem KF (t:TypeId)(xs ys:List Nat)(b:Bool)(h:decide (xs=ys) = !b)(hx:B8 xs)(hy:B8 ys):Bh P (.bin .neq t) [tS xs,tS ys] (lb b):=Aey t _ _ b (by
 rw[←h];by_cases h:xs=ys
 ·subst h;simp
 ·rw[decide_eq_false h,beq_eq_false_iff_ne]
  exact fun h'=>h ((O5 hx hy).1 (M8.1 h')))
abbrev l8 (x:Int):TV:=BA (.int .u8 x)
theorem JB (t:TypeId)(x y:Int)(b:Bool)(h:decide (x=y)=b):Bh P (.bin .eql t) [l8 x,l8 y] (lb b):=B6 (vs:=[.int .u8 x,.int .u8 y]) fun w=>by subst h;simp[OpK.run,eqGuard,binOp,Op.intCmp];rfl
theorem TW (t:TypeId)(x y:Int)(b:Bool)(h:decide (x < y)=b):Bh P (.bin .lss t) [l8 x,l8 y] (lb b):=B6 (vs:=[.int .u8 x,.int .u8 y]) fun w=>by subst h;simp[OpK.run,eqGuard,binOp,Op.intCmp]
theorem Aaq (t:TypeId)(x y:Int)(b:Bool)(h:decide (y < x)=b):Bh P (.bin .gtr t) [l8 x,l8 y] (lb b):=B6 (vs:=[.int .u8 x,.int .u8 y]) fun w=>by subst h;simp[OpK.run,eqGuard,binOp,Op.intCmp]
end
def fF (c:Bool)(k:Nat)(q:Rat):Item where
 n:=4
 T:=fun N w l => ∃ n d l1 l2,l=l1++l2∧(IP (aP k n)).T N w l1∧(IP (aP k d)).T N w l2∧Rat.divInt n d=q∧0 < k∧(c=true→(IP (cP q.num)).T N w l1∧(IP (cP (q.den:Int))).T N w l2)
 step:=fun hw hN ⟨n,d,l1,l2,e,h1,h2,h3,h4,h5⟩=>⟨n,d,l1,l2,e,(IP (aP k n)).step hw hN h1,(IP (aP k d)).step hw hN h2,h3,h4,fun hc=>⟨(IP _).step hw hN (h5 hc).1,(IP _).step hw hN (h5 hc).2⟩⟩
 len:=fun ⟨n,d,l1,l2,e,h1,h2,_⟩=>by rw[e,List.length_append,(IP _).len h1,(IP _).len h2];rfl
 one:=fun ⟨n,d,l1,l2,e,h1,h2,_⟩=>by
  rw[e];intro v hv;rcases List.mem_append.1 hv with hv | hv
  ·exact (IP _).one h1 v hv
  ·exact (IP _).one h2 v hv
abbrev fc (c:Bool)(k:Nat)(q:Rat):CT := .ag [.b (.it (fF c k q))]
abbrev tfc (c:Bool)(k:Nat)(q:Rat):TV := .cv (fc c k q)
theorem AcG {c c':Bool}{k k':Nat}{q q':Rat}(hc:c'=true→c=true)(hk:k≤k')(hq:q=q'):ItLe (fF c k q) (fF c' k' q'):=by
 subst hq;rintro N w l ⟨n,d,l1,l2,e,⟨s1,A1,n1,c1,e1,h1,h1'⟩,⟨s2,A2,n2,c2,e2,h2,h2'⟩,h3,h4,h5⟩;exact ⟨n,d,l1,l2,e,⟨s1,A1,n1,c1,e1,h1,Nat.le_trans h1' hk⟩,⟨s2,A2,n2,c2,e2,h2,Nat.le_trans h2' hk⟩,h3,by omega,fun h=>h5 (hc h)⟩
theorem US {c c':Bool}{k k':Nat}{q q':Rat}(hc:c'=true→c=true)(hk:k≤k')(hq:q=q'):CTle (fc c k q) (fc c' k' q'):=(ILe.cons (AcG hc hk hq).x ILe.refl).ag
theorem AdN {c:Bool}{k k':Nat}{q:Rat}(hk:k≤k'):CTle (fc c k q) (fc false k' q):=US (fun h=>by cases h) hk rfl
theorem Kq {c:Bool}{k k':Nat}{q:Rat}(hk:k≤k'):CTle (fc c k q) (fc c k' q):=US (fun h=>h) hk rfl
theorem J1 {k:Nat}{q:Rat}(h:Lq q k):CTle (frc q) (fc true k q):=by
 rintro N w g v ⟨vs,e,hl⟩;obtain ⟨l1,l2,e2,h1,l3,l4,e3,h2,h3⟩:=hl;have h3:l4=[]:=h3;subst h3;rw[List.append_nil] at e3;subst e3;have g1:(IP (cP q.num)).T N w l1:=h1;have g2:(IP (cP (q.den:Int))).T N w l2:=h2;obtain ⟨s,A,n,c,q1,q2⟩:=h1;obtain ⟨s',A',n',c',q3,q4⟩:=h2;refine ⟨vs,e,vs,[],by simp,⟨q.num,q.den,l1,l2,e2,⟨s,A,n,c,q1,CInt.any q2,CInt.len q2 h.n⟩,⟨s',A',n',c',q3,CInt.any q4,CInt.len q4 h.d⟩,BB q,h.k0,fun _=>⟨g1,g2⟩⟩,rfl⟩
theorem Zz {k:Nat}{q:Rat}:CTle (fc true k q) (frc q):=by
 rintro N w g v ⟨vs,e,hl⟩;obtain ⟨n,d,l1,l2,e1,h1,h2,h3,h4,h5⟩:=CE hl;obtain ⟨g1,g2⟩:=h5 rfl;exact ⟨vs,e,l1,l2,e1,g1,l2,[],by simp,g2,rfl⟩
abbrev zl:List It:=[.o false,.z,.o false,.z]
theorem QE (N:Nat→Prop)(w:World){k:Nat}:(IP (aP k 0)).T N w [.bool false,.slice none 0 0]:=⟨false,none,0,0,rfl,(CInt.zero w).any,Nat.zero_le _⟩
theorem Xn:CTle (.ag zl) (fc false 1 0):=by
 rintro N w g v ⟨vs,e,hl⟩;obtain ⟨l1,r1,e1,h1,l2,r2,e2,h2,l3,r3,e3,h3,l4,r4,e4,h4,h5⟩:=hl;have h5:r4=[]:=h5;have h1:l1=[_]:=h1;have h2:l2=[_]:=h2;have h3:l3=[_]:=h3;have h4:l4=[_]:=h4;subst h5 h1 h2 h3 h4 e4 e3 e2 e1;exact ⟨_,e,_,[],rfl,⟨0,0,[.bool false,.slice none 0 0],[.bool false,.slice none 0 0],rfl,QE N w,QE N w,by rw[Mu];rfl,by omega,fun h=>by cases h⟩,rfl⟩
section
variable {I:WInv}{f:FuncId}{res:TV}{c c':Bool}{k j:Nat}{p q:Rat}
theorem Kr {N:Nat→Prop}{w:World}{v:Value}(h:(fc c k q).sem N w G0 v) : ∃ n d,Lim k n∧Lim k d∧0 < k∧Rat.divInt n d=q∧(fr (aP k n) (aP k d)).sem N w G0 v:=by
 obtain ⟨vs,e,hl⟩:=h;obtain ⟨n,d,l1,l2,e1,h1,h2,h3,h4,h5⟩:=CE hl;have g1:=h1;have g2:=h2;obtain ⟨s,A,n1,c1,q1,q2,q3⟩:=h1;obtain ⟨s',A',n2,c2,q4,q5,q6⟩:=h2;exact ⟨n,d,q2.lim.mono q3,q5.lim.mono q6,h4,h3,vs,e,l1,l2,e1,g1,l2,[],by simp,g2,rfl⟩
theorem RQ (h : ∀ n d,Fk (aP k n) (aP k d) n d k→Rat.divInt n d=q→Sp Tryz.prog I f [fr (aP k n) (aP k d)] res)(hk:k≤262144):Sp Tryz.prog I f [fc c k q] res:=by
 intro N w vs hI hl hv;obtain ⟨v,r,e,h1,h2⟩:=hv;obtain ⟨n,d,a,b,k0,hq,hs⟩:=Kr h1;exact h n d ⟨Gj (by omega),Gj (by omega),a,b,k0,hk⟩ hq N w vs hI hl ⟨v,r,e,hs,h2⟩
theorem AcA (h : ∀ n d n' d',Fk (aP k n) (aP k d) n d k→Fk (aP j n') (aP j d') n' d' j→Rat.divInt n d=p→Rat.divInt n' d'=q→Sp Tryz.prog I f [fr (aP k n) (aP k d),fr (aP j n') (aP j d')] res)(hk:k≤262144)(hj:j≤262144):Sp Tryz.prog I f [fc c k p,fc c' j q] res:=by
 intro N w vs hI hl hv;obtain ⟨v,r,e,h1,v2,r2,e2,h2,h3⟩:=hv;obtain ⟨n,d,a,b,k0,hq,hs⟩:=Kr h1;obtain ⟨n',d',a',b',k0',hq',hs'⟩:=Kr h2;exact h n d n' d' ⟨Gj (by omega),Gj (by omega),a,b,k0,hk⟩ ⟨Gj (by omega),Gj (by omega),a',b',k0',hj⟩ hq hq' N w vs hI hl ⟨v,r,e,hs,v2,r2,e2,hs',h3⟩
theorem Afd (h:k+j≤262144):Sp Tryz.prog I 126 [fc c k p,fc c' j q] (tfc true (k+j+1) (p+q)) :=
 AcA (fun n d n' d' a b e e'=>by subst e e';exact (Acn a b h).rs (J1 (a.lq.add b.lq)).tv) (by omega) (by omega)
theorem AeL (r:Int)(hr:Fe p q=r)(h:k+j≤262144):Sp Tryz.prog I 161 [fc c k p,fc c' j q] (li r) :=
 AcA (fun n d n' d' a b e e'=>by subst e e';exact AbU r a b h hr) (by omega) (by omega)
theorem Cv (r:Int)(hr:p.num.sign=r)(h:k≤262144):Sp Tryz.prog I 86 [fc c k p] (li r) :=
 RQ (fun n d a e=>by subst e;exact XJ r a hr) h
def kP (k:Nat)(z:Int):IntP:=⟨fun w s A n c=>CInt w s A n c z∧n≤k,fun hw h=>⟨h.1.step hw,h.2⟩⟩
abbrev ik (k:Nat)(z:Int):List It:=ip (kP k z)
theorem Cb {z:Int}(h:k≤1048576):Num (ik k z) z:=by
 intro N w l hl;obtain ⟨s,A,n,c,e,h1,h2⟩:=CE hl;exact ⟨s,A,n,c,e,h1.any,Nat.le_trans h2 h⟩
theorem Aaj {z:Int}:Can (ik k z) z:=by
 intro N w l hl;obtain ⟨s,A,n,c,e,h1,h2⟩:=CE hl;exact ⟨s,A,n,c,e,h1⟩
theorem Jk {z:Int}(h:Lim k z):CTle (.ag (ic z)) (.ag (ik k z)):=by
 rintro N w g v ⟨vs,e,l1,l2,e1,⟨s,A,n,c,e2,h1⟩,h2⟩;exact ⟨vs,e,l1,l2,e1,⟨s,A,n,c,e2,h1,CInt.len h1 h⟩,h2⟩
theorem Cx {k:Nat}{q:Rat}:CTle (fc true k q) (.ag (ik k q.num++ik k (q.den:Int))):=by
 rintro N w g v ⟨vs,e,hl⟩;obtain ⟨n,d,l1,l2,e1,h1,h2,h3,h4,h5⟩:=CE hl;obtain ⟨g1,g2⟩:=h5 rfl;obtain ⟨s,A,m,c,q1,q2⟩:=g1;obtain ⟨s',A',m',c',q3,q4⟩:=g2;obtain ⟨t,B,i,a,r1,r2,r3⟩:=h1;obtain ⟨t',B',i',a',r4,r5,r6⟩:=h2;rw[q1] at r1;rw[q3] at r4;injection r1 with r1 r7;injection r7 with r7 r8;injection r7 with r7 r9 r10;injection r4 with r4 r11;injection r11 with r11 r12;injection r11 with r11 r13 r14;subst r9 r13;exact ⟨vs,e,l1,l2,e1,⟨s,A,m,c,q1,q2,r3⟩,l2,[],by simp,⟨s',A',m',c',q3,q4,r6⟩,rfl⟩
theorem Zv {k:Nat}{q:Rat}(h:0 < k):CTle (.ag (ik k q.num++ik k (q.den:Int))) (fc true k q):=by
 rintro N w g v ⟨vs,e,hl⟩;obtain ⟨l1,l2,e2,h1,l3,l4,e3,h2,h3⟩:=hl;have h3:l4=[]:=h3;subst h3;rw[List.append_nil] at e3;subst e3;obtain ⟨s,A,n,c,q1,q2,q5⟩:=h1;obtain ⟨s',A',n',c',q3,q4,q6⟩:=h2;exact ⟨vs,e,vs,[],by simp,⟨q.num,q.den,l1,l2,e2,⟨s,A,n,c,q1,CInt.any q2,q5⟩,⟨s',A',n',c',q3,CInt.any q4,q6⟩,BB q,h,fun _=>⟨⟨s,A,n,c,q1,q2⟩,⟨s',A',n',c',q3,q4⟩⟩⟩,rfl⟩
theorem Vh (h:k≤262144):Sp Tryz.prog I 159 [fc c k p] (.cv (.ag (ik (k+1) (clq p)))) :=
 RQ (fun n d a e=>by subst e;exact (Aag a).rs (Jk (a.lq.n.neg.fdiv _).neg).tv) h
end
section
variable {I:WInv}{f:FuncId}{res:TV}{k j m:Nat}{a b:Int}
theorem AdF {N:Nat→Prop}{w:World}{g:Gh}{v:Value}(h:(CT.ag (ik k a)).sem N w g v):Lim k a:=by
 obtain ⟨vs,e,l1,l2,e1,⟨s,A,n,c,e2,h1,h2⟩,h3⟩:=h;exact (AInt.lim h1.any).mono h2
theorem AcB (h:Lim k a→Sp Tryz.prog I f [.ag (ik k a)] res):Sp Tryz.prog I f [.ag (ik k a)] res:=by
 intro N w vs hI hl hv;obtain ⟨v,r,e,h1,h2⟩:=hv;exact h (AdF h1) N w vs hI hl ⟨v,r,e,h1,h2⟩
theorem OM (h:Lim k a→Lim j b→Sp Tryz.prog I f [.ag (ik k a),.ag (ik j b)] res):Sp Tryz.prog I f [.ag (ik k a),.ag (ik j b)] res:=by
 intro N w vs hI hl hv;obtain ⟨v,r,e,h1,v2,r2,e2,h2,h3⟩:=hv;exact h (AdF h1) (AdF h2) N w vs hI hl ⟨v,r,e,h1,v2,r2,e2,h2,h3⟩
theorem Afj (h1:k+1≤m)(h2:j+1≤m)(h:m≤1048576):Sp Tryz.prog I 145 [.ag (ik k a),.ag (ik j b)] (.cv (.ag (ik m (a+b)))) :=
 OM fun l1 l2=>(JC (Cb (by omega)) (Cb (by omega))).rs (Jk (((l1.mono (by omega:k≤m - 1)).add (l2.mono (by omega))).mono (by omega))).tv
theorem Afi (h:k+j≤1048576):Sp Tryz.prog I 146 [.ag (ik k a),.ag (ik j b)] (.cv (.ag (ik (k+j) (a*b)))) :=
 OM fun l1 l2=>(F0 (Cb (by omega)) (Cb (by omega))).rs (Jk (l1.mul l2)).tv
theorem Ac6 (h1:k+1≤m)(h2:j+1≤m)(h:m≤1048576):Sp Tryz.prog I 188 [.ag (ik k a),.ag (ik j b)] (.cv (.ag (ik m (a+b)))) :=
 OM fun l1 l2=>(YG (Cb (by omega)) (Cb (by omega))).rs (Jk (((l1.mono (by omega:k≤m - 1)).add (l2.mono (by omega))).mono (by omega))).tv
theorem Fp (h:k+j≤1048576):Sp Tryz.prog I 112 [.ag (ik k a),.ag (ik j b)] (.cv (.ag (ik (k+j) (a*b)))) :=
 OM fun l1 l2=>(Yw (Cb (by omega)) (Cb (by omega))).rs (Jk (l1.mul l2)).tv
theorem Ae4 (h:k≤1048576):Sp Tryz.prog I 147 [.ag (ik k a)] (.cv (.ag (ik k (-a)))):=AcB fun l=>(JQ (Cb h)).rs (Jk l.neg).tv
theorem XV (r:Int)(hr:a.sign=r)(h:k≤1048576):Sp Tryz.prog I 94 [.ag (ik k a)] (li r):=BX r (Cb h) hr
theorem Ac5 (hk:k≤1048576)(hj:j≤1048576):Sp Tryz.prog I 135 [.ag (ik k a),.ag (ik j b)] (li (CQ a b)):=Ae8 _ (Cb hk) (Cb hj) rfl
theorem Ux (a:Int)(h:R64 a):Sp Tryz.prog I 113 [ci a] (.cv (.ag (ik 2 a))):=(Ez a h.1 h.2).rs (Jk (RP h)).tv
theorem XX (r:Bool)(hr:decide (a=b)=r):Sp Tryz.prog I 107 [.ag (ik k a),.ag (ik j b)] (lb r):=AaQ r Aaj Aaj hr
theorem UT {q:Rat}(h:Lq q k):CTle (fc true j q) (fc true k q):=fun N w g v hv=>J1 h N w g v (Zz N w g v hv)
end
section
variable {I:WInv}{c c':Bool}{k j:Nat}{p q:Rat}{n d:Int}
theorem Hw {q1 q2:IntP}(h1:Num (ip q1) n)(h2:Num (ip q2) d)(hk1:Lim 1048576 n)(hk2:Lim 1048576 d):Sp Tryz.prog I 108 [.ag (ip q1),.ag (ip q2)] (tfr (Rat.divInt n d)):=by
 by_cases hd:d=0
 ·have e:Rat.divInt n d=0:=by subst hd;exact Rat.divInt_zero n
  rw[e];refine Sp.res (res := .cv (.ag (KY++ic 1))) ?_ fun N w v h=>Ou h
  exact sr 53 [po (Ez 1 (by omega) (by omega)),po (BX 0 h2 (by rw[hd];rfl))]
 ·by_cases hn:n=0
  ·have e:Rat.divInt n d=0:=by subst hn;exact Rat.zero_divInt d
   rw[e];refine Sp.res (res := .cv (.ag (KY++ic 1))) ?_ fun N w v h=>Ou h
   rcases Int.lt_or_gt_of_ne hd with hdd | hdd
   ·exact sr 53 [po (Ez 1 (by omega) (by omega)),po (BX (-1) h2 (Int.sign_eq_neg_one_of_neg hdd)),po (BX 0 h1 (by rw[hn];rfl))]
   ·exact sr 53 [po (Ez 1 (by omega) (by omega)),po (BX 1 h2 (Int.sign_eq_one_of_pos hdd)),po (BX 0 h1 (by rw[hn];rfl))]
  ·obtain ⟨sn,hsn,hs2⟩ : ∃ s,n.sign=s∧(s=1∨s = -1):=by
    rcases Int.lt_or_gt_of_ne hn with h | h
    ·exact ⟨_,Int.sign_eq_neg_one_of_neg h,.inr rfl⟩
    ·exact ⟨_,Int.sign_eq_one_of_pos h,.inl rfl⟩
   have ln:=Eg (d:=d) hk1;have ld:=E0 (n:=n) hk2 (by omega)
   rcases Int.lt_or_gt_of_ne hd with hdd | hdd
   ·have m1:Num (ic (-n)) (-n):=Bf hk1.neg (Nat.le_refl _)
    have m2:Num (ic (-d)) (-d):=Bf hk2.neg (Nat.le_refl _);have hp:0 < -d:=by omega
    have hg:=Lc (n := -n) (d := -d) (by omega)
    have mg:Num (ic ((Nat.gcd (-n).natAbs (-d).natAbs:Nat):Int)) _:=Bf (Fu hk2.neg (by omega)) (Nat.le_refl _)
    rw[←PV n d] at ln ld ⊢;unfold tfr frc;rw[D3 hp] at ln ⊢;rw[D4 hp] at ld ⊢;have c1:=Bf ln (Nat.le_refl _);have c2:=Bf ld (Nat.le_refl _);rcases hs2 with rfl | rfl <;> exact sr 53 [po (Ez 1 (by omega) (by omega)),po (BX (-1) h2 (Int.sign_eq_neg_one_of_neg hdd)),po (BX _ h1 hsn),po (BX (-1) h2 (Int.sign_eq_neg_one_of_neg hdd)),po (JQ h1),po (JQ h2),po (PP m1 m2),po (Gf m1 mg hk1.neg (Fu hk2.neg (by omega)) hg),po (Gf m2 mg hk2.neg (Fu hk2.neg (by omega)) hg),po (DU c1),po (DU c2)]
   ·have hp:0 < d:=hdd
    have hg:=Lc (n:=n) (d:=d) (by omega)
    have mg:Num (ic ((Nat.gcd n.natAbs d.natAbs:Nat):Int)) _:=Bf (Fu hk2 (by omega)) (Nat.le_refl _)
    unfold tfr frc;rw[D3 hp] at ln ⊢;rw[D4 hp] at ld ⊢;have c1:=Bf ln (Nat.le_refl _);have c2:=Bf ld (Nat.le_refl _);rcases hs2 with rfl | rfl <;> exact sr 53 [po (Ez 1 (by omega) (by omega)),po (BX 1 h2 (Int.sign_eq_one_of_pos hdd)),po (BX _ h1 hsn),po (BX 1 h2 (Int.sign_eq_one_of_pos hdd)),po (PP h1 h2),po (Gf h1 mg hk1 (Fu hk2 (by omega)) hg),po (Gf h2 mg hk2 (Fu hk2 (by omega)) hg),po (DU c1),po (DU c2)]
theorem Jx {m:Nat}{a b:Int}(hk:k≤m)(hj:j≤m)(h0:0 < m)(hm:m≤262144):Sp Tryz.prog I 108 [.ag (ik k a),.ag (ik j b)] (tfc true m (Rat.divInt a b)) :=
 OM fun l1 l2=>(Hw (Cb (by omega)) (Cb (by omega)) (l1.mono (by omega)) (l2.mono (by omega))).rs (J1 (Fk.lq ⟨Cb (k:=k) (by omega),Cb (k:=j) (by omega),l1.mono hk,l2.mono hj,h0,hm⟩)).tv
theorem BC (h:k≤262144):Sp Tryz.prog I 56 [fc c k p] (tfc true k p) :=
 RQ (fun n d a e=>by
  subst e;have r:=(Hw (I:=I) a.a a.b a.big.1 a.big.2).rs (J1 a.lq).tv;exact sr 8 [po (r)]) h
theorem Tr (h:k≤262144):Sp Tryz.prog I 152 [fc c k p] (tfc true k (-p)) :=
 RQ (fun n d a e=>by
  subst e;have r:=Hw (I:=I) (Bf a.ln.neg (by have:=a.k1;omega)) a.b (a.ln.neg.mono (by have:=a.k1;omega)) a.big.2
  have l:=a.lq.neg;rw[Rat.neg_divInt] at l ⊢;have r:=r.rs (J1 l).tv;exact sr 9 [po (JQ a.a),po (r)]) h
theorem Fn (h:k≤262144):Sp Tryz.prog I 42 [fc c k p] (li p.num.sign):=by
 exact sr 7 [po ((BC (I:=I) (c:=c) (k:=k) (p:=p) (by omega)).rs (Cx (k:=k) (q:=p)).tv),po (XV (I:=I) (k:=k) (a:=p.num) (r:=(p.num).sign) rfl (by omega))]
theorem Aeo:Sp Tryz.prog I 151 [fc c 12 p,fc c' 12 q] (tfc true 25 (p+q)):=by
 have e:=Md (a:=p.num) (b:=(p.den:Int)) (c:=q.num) (d:=(q.den:Int)) (by have:=p.den_pos;omega) (by have:=q.den_pos;omega)
 rw[BB,BB] at e;rw[←e];exact sr 26 [po ((BC (I:=I) (c:=c) (k:=12) (p:=p) (by omega)).rs (Cx (k:=12) (q:=p)).tv),po ((BC (I:=I) (c:=c') (k:=12) (p:=q) (by omega)).rs (Cx (k:=12) (q:=q)).tv),po (Fp (I:=I) (k:=12) (j:=12) (a:=p.num) (b:=(q.den:Int)) (by omega)),po (Fp (I:=I) (k:=12) (j:=12) (a:=q.num) (b:=(p.den:Int)) (by omega)),po (Ac6 (I:=I) (k:=24) (j:=24) (m:=25) (a:=p.num*(q.den:Int)) (b:=q.num*(p.den:Int)) (by omega) (by omega) (by omega)),po (Fp (I:=I) (k:=12) (j:=12) (a:=(p.den:Int)) (b:=(q.den:Int)) (by omega)),po (Jx (I:=I) (k:=25) (j:=24) (m:=25) (a:=(p.num*(q.den:Int))+(q.num*(p.den:Int))) (b:=(p.den:Int)*(q.den:Int)) (by omega) (by omega) (by omega) (by omega))]
theorem AeX:Sp Tryz.prog I 125 [fc c 12 p,fc c' 12 q] (tfc true 24 (p*q)):=by
 have e:=U3 p.num p.den q.num q.den;rw[BB,BB] at e;rw[←e];exact sr 20 [po ((BC (I:=I) (c:=c) (k:=12) (p:=p) (by omega)).rs (Cx (k:=12) (q:=p)).tv),po ((BC (I:=I) (c:=c') (k:=12) (p:=q) (by omega)).rs (Cx (k:=12) (q:=q)).tv),po (Fp (I:=I) (k:=12) (j:=12) (a:=p.num) (b:=q.num) (by omega)),po (Fp (I:=I) (k:=12) (j:=12) (a:=(p.den:Int)) (b:=(q.den:Int)) (by omega)),po (Jx (I:=I) (k:=24) (j:=24) (m:=24) (a:=p.num*q.num) (b:=(p.den:Int)*(q.den:Int)) (by omega) (by omega) (by omega) (by omega))]
theorem AdY:Sp Tryz.prog I 68 [fc c 12 p,fc c' 12 q] (tfc true 24 (p / q)):=by
 have e:=U4 p.num p.den q.num q.den;rw[BB,BB] at e;rw[←e];exact sr 20 [po ((BC (I:=I) (c:=c) (k:=12) (p:=p) (by omega)).rs (Cx (k:=12) (q:=p)).tv),po ((BC (I:=I) (c:=c') (k:=12) (p:=q) (by omega)).rs (Cx (k:=12) (q:=q)).tv),po (Fp (I:=I) (k:=12) (j:=12) (a:=p.num) (b:=(q.den:Int)) (by omega)),po (Fp (I:=I) (k:=12) (j:=12) (a:=(p.den:Int)) (b:=q.num) (by omega)),po (Jx (I:=I) (k:=24) (j:=24) (m:=24) (a:=p.num*(q.den:Int)) (b:=(p.den:Int)*q.num) (by omega) (by omega) (by omega) (by omega))]
theorem AcY:Sp Tryz.prog I 117 [fc c 12 p,fc c' 12 q] (tfc true 25 (p - q)):=by
 rw[show p - q=p + -q by grind]
 exact sr 9 [po (Tr (I:=I) (c:=c') (k:=12) (p:=q) (by omega)),po (Aeo (I:=I) (c:=c) (c':=true) (p:=p) (q := -q))]
theorem AaO:(p - q).num.sign=Fe p q:=by
 unfold Fe;by_cases h1:p < q
 ·rw[if_pos h1]
  have h : ¬ 0≤(p - q).num:=fun h=>by have:=Rat.num_nonneg.1 h;grind
  exact Int.sign_eq_neg_one_of_neg (by omega)
 ·rw[if_neg h1]
  by_cases h2:p=q
  ·rw[if_pos h2,h2,show q - q=0 by grind];rfl
  ·rw[if_neg h2]
   have h : ¬ 0≤(-(p - q)).num:=fun h=>by have:=Rat.num_nonneg.1 h;grind
   rw[Rat.neg_num] at h;exact Int.sign_eq_one_of_pos (by omega)
theorem Q1:Sp Tryz.prog I 74 [fc c 12 p,fc c' 12 q] (li (Fe p q)):=by
 rw[←AaO];exact sr 9 [po (AcY (I:=I) (c:=c) (c':=c') (p:=p) (q:=q)),po (Fn (I:=I) (c:=true) (k:=25) (p:=p - q) (by omega))]
theorem GW (a:Int)(ha:R64 a):Sp Tryz.prog I 69 [ci a] (tfc true 2 (a:Rat)):=by
 have e:Rat.divInt a 1=(a:Rat):=by rw[Rat.divInt_eq_div,Rat.intCast_one,Rat.div_def];grind
 rw[←e];exact sr 7 [po (Ux (I:=I) a ha),po (Ux (I:=I) 1 ⟨by omega,by omega⟩),po (Jx (I:=I) (k:=2) (j:=2) (m:=2) (a:=a) (b:=1) (by omega) (by omega) (by omega) (by omega))]
theorem Adu {a b:Int}(hk:k≤1048576)(hj:j≤1048576)(hb:b≠0):Sp Tryz.prog I 149 [.ag (ik k a),.ag (ik j b)] (.tu [.ag (ik (k+1) (a.fdiv b)),.ag (ik j (a.fmod b)),ci 0]) :=
 OM fun l1 l2=>(Gf (Cb hk) (Cb hj) (l1.mono (by omega)) (l2.mono (by omega)) hb).rs (Lu ⟨Jk (l1.fdiv _),Jk (l2.fmod hb),CTle.refl,trivial⟩)
theorem OB {a:Int}(hk:k≤1048576):Sp Tryz.prog I 150 [.ag (ik k a)] (.cv (.ag (ik k a))):=AcB fun l=>(DU (Cb hk)).rs (Jk l).tv
theorem Zr {p:Rat}:decide ((p.num.fmod (p.den:Int)).sign < 0)=false:=decide_eq_false fun h=>by
 have h1:=Int.sign_neg_iff.1 h;have h2:=p.den_pos;have:=Int.fmod_nonneg_of_pos p.num (b:=(p.den:Int)) (by omega)
 omega
theorem Zu:Sp Tryz.prog I 156 [fc c 12 p] (.cv (.ag (ik 13 (flq p)))):=by
 have hd:(p.den:Int)≠0:=by have:=p.den_pos;omega
 exact sr 25 [po ((BC (I:=I) (c:=c) (k:=12) (p:=p) (by omega)).rs (Cx (k:=12) (q:=p)).tv),po (Adu (I:=I) (k:=12) (j:=12) (a:=p.num) (b:=(p.den:Int)) (by omega) (by omega) hd),po (XV (I:=I) (k:=12) (a:=p.num.fmod (p.den:Int)) (r:=(p.num.fmod (p.den:Int)).sign) rfl (by omega)),pk (D8 3 ((p.num.fmod (p.den:Int)).sign) 0 false Zr),po (OB (I:=I) (k:=13) (a:=p.num.fdiv (p.den:Int)) (by omega))]
theorem Mq:Sp Tryz.prog I 115 [fc c 12 p] (.cv (.ag (ik 13 (clq p)))):=by
 exact sr 8 [po (Tr (I:=I) (c:=c) (k:=12) (p:=p) (by omega)),po (Zu (I:=I) (c:=true) (p := -p)),po (Ae4 (I:=I) (k:=13) (a:=flq (-p)) (by omega)),po (OB (I:=I) (k:=13) (a := -flq (-p)) (by omega))]
theorem AaA {x:List It}{z:Int}(hx:Num x z):Sp Tryz.prog I 158 [.ag x] (.tu [ci (P7 z),ci (Q7 z)]):=by
 intro N w vs _ _ hv;obtain ⟨l,rfl,h1⟩:=LK hv;obtain ⟨s,A,n,c,rfl,h2,h3⟩:=hx N w l h1;exact (QQ w h2).mono fun e w' he=>⟨_,he.1,⟨_,rfl,_,_,rfl,(rfl:[_]=[_]),_,_,rfl,(rfl:[_]=[_]),rfl⟩,he.2⟩
theorem YB {ds:List Nat}(i:Nat)(h:W32 ds)(hl:ds.length≤1048576):Sp Tryz.prog I 157 [cds ds,ci (i:Int)] (BA (.int .u64 (ds.getD i 0:Nat))):=by
 intro N w vs _ _ hv;obtain ⟨v,r,rfl,⟨A,c,e1,q1,q2,q3⟩,v2,r2,rfl,h3,h4⟩:=hv;have h3:[v2]=[.int .i64 (i:Int)]:=h3;injection h3 with h3;obtain rfl:r2=[]:=h4;injection e1 with e1;subst e1 h3;exact (EC (i:=i) w q1 h (by omega)).mono fun e w' he=>⟨_,he.1,(rfl:[_]=[_]),by rw[←he.2];exact Below.refl _ _⟩
theorem Aeu (t:TypeId){b:Nat}(hb:b < 4294967296):Bh Tryz.prog (.bin .shl t) [BA (.int .u64 (b:Int)),BA (.int .u64 32)] (BA (.int .u64 ((b:Int)*4294967296))):=B6 (vs:=[.int .u64 (b:Int),.int .u64 32]) fun w=>by
 have h:IntKind.u64.wrap ((b:Int)*4294967296)=(b:Int)*4294967296:=IntWalk.u64_in _ (by omega)
 simp[OpK.run,eqGuard,binOp,Op.shift,IntKind.bits,h]
theorem AeT (t:TypeId){a b v:Nat}(ha:a < 4294967296)(hb:b < 4294967296)(hv:v=a+4294967296*b):Bh Tryz.prog (.bin .or t) [BA (.int .u64 (a:Int)),BA (.int .u64 ((b:Int)*4294967296))] (BA (.int .u64 (v:Int))):=B6 (vs:=[.int .u64 (a:Int),.int .u64 ((b:Int)*4294967296)]) fun w=>by
 have h:=Oz a b ha hb;rw[←hv] at h;exact congrArg (fun z=>Result.ok (Value.int .u64 z) w) h
theorem Acx (t:TypeId)(x y:Int)(b:Bool)(h:decide (x≤y)=b):Bh Tryz.prog (.bin .leq t) [BA (.int .u64 x),BA (.int .u64 y)] (lb b):=B6 (vs:=[.int .u64 x,.int .u64 y]) fun w=>by subst h;simp[OpK.run,eqGuard,binOp,Op.intCmp]
theorem Acw (t:TypeId)(x y:Int)(b:Bool)(h:decide (x < y)=b):Bh Tryz.prog (.bin .lss t) [BA (.int .u64 x),BA (.int .u64 y)] (lb b):=B6 (vs:=[.int .u64 x,.int .u64 y]) fun w=>by subst h;simp[OpK.run,eqGuard,binOp,Op.intCmp]
theorem AeU (x y:Int)(h:IntKind.u64.wrap (-x)=y):Bh Tryz.prog (.un .neg) [BA (.int .u64 x)] (BA (.int .u64 y)):=B6 (vs:=[.int .u64 x]) fun w=>by
 rw[←Int.zero_sub] at h;simp only[OpK.run,Op.unary,Op.intArith,h]
 rfl
theorem Acy (s d:TypeId)(x y:Int)(hs:Tryz.prog.underlying s=some (.int .u64))(ht:Tryz.prog.underlying d=some (.int .i64))(h:IntKind.i64.wrap x=y):Bh Tryz.prog (.conv s d) [BA (.int .u64 x)] (li y):=B6 (vs:=[.int .u64 x]) fun w=>by
 subst h;simp[OpK.run,convert,Conv.intToInt,AE hs,AE ht]
theorem XT {x:List It}{z:Int}(hx:Num x z):Sp Tryz.prog I 116 [.ag x] (.tu [ci (P7 z),ci (Q7 z)]):=by
 refine Sp.sub (args:=[.ag (ip (iy z))]) ?_ fun N w vs ⟨v,l,e,h1,h2⟩=>⟨v,l,e,RS hx h1,h2⟩
 obtain ⟨s,hs⟩ : ∃ s,decide (z < 0)=s:=⟨_,rfl⟩;have ca:=GJ (I:=I) s (BE z) hs;have lw:=Ak z.natAbs;have l0:(Ad z.natAbs).length=(Ad z.natAbs).length:=rfl;have ln:=GZ (P:=Tryz.prog) 22 97 3 (Ad z.natAbs) Tryz.underlying22;unfold dz at ca;by_cases h2:2 < (Ad z.natAbs).length
 ·obtain ⟨e1,e2⟩:=EI (Vk l0 h2)
  rw[e1,e2];exact sr 37 [po ca,pk ln,pk (Cc 3 (((Ad z.natAbs).length:Nat):Int) 2 (by omega))]
 ·obtain ⟨ev,a1,a2⟩:=P4 l0 (by omega)
  have d0:=YB (I:=I) 0 lw (by omega)
  have d1:=YB (I:=I) 1 lw (by omega)
  have o1:=Aeu 143 a2;have o2:=AeT 143 a1 a2 ev;have o3:=Aq (P:=Tryz.prog) 3 (((Ad z.natAbs).length:Nat):Int) 2 (by omega)
  have hz:z=sgn s z.natAbs:=(Adj hs).symm;have hr:inR z=if s then decide ((z.natAbs:Int)≤9223372036854775808) else decide ((z.natAbs:Int) < 9223372036854775808):=by
   rw[hz,B0];cases s <;> simp[sgn,Kh,Kg]
  have e1:P7 z=if inR z then z else 0:=rfl
  have e2:Q7 z=if inR z then 0 else 5:=rfl
  rw[e1,e2];cases s with
  | true =>
   cases h3:decide ((z.natAbs:Int)≤9223372036854775808) with
   | true =>
    rw[hr];simp only[if_true,h3];have w1:IntKind.i64.wrap (IntKind.u64.wrap (-(z.natAbs:Int)))=z:=(SC (by rw[Kh];exact h3)).trans hz.symm
    exact sr 37 [po ca,pk ln,pk o3,po d0,po d1,pk o1,pk o2,pk (Acx 143 (z.natAbs:Int) 9223372036854775808 true h3),pk (AeU (z.natAbs:Int) _ rfl),pk (Acy 143 2 _ _ Tryz.underlying143 Tryz.underlying2 w1)]
   | false =>
    rw[hr];simp only[if_true,h3];exact sr 37 [po ca,pk ln,pk o3,po d0,po d1,pk o1,pk o2,pk (Acx 143 (z.natAbs:Int) 9223372036854775808 false h3)]
  | false =>
   cases h3:decide ((z.natAbs:Int) < 9223372036854775808) with
   | true =>
    rw[hr];simp only[Bool.false_eq_true,if_false,if_true,h3];have w1:IntKind.i64.wrap (z.natAbs:Int)=z:=(SB (by rw[Kg];exact h3)).trans hz.symm
    exact sr 37 [po ca,pk ln,pk o3,po d0,po d1,pk o1,pk o2,pk (Acw 143 (z.natAbs:Int) 9223372036854775808 true h3),pk (Acy 143 2 _ _ Tryz.underlying143 Tryz.underlying2 w1)]
   | false =>
    rw[hr];simp only[Bool.false_eq_true,if_false,h3];exact sr 37 [po ca,pk ln,pk o3,po d0,po d1,pk o1,pk o2,pk (Acw 143 (z.natAbs:Int) 9223372036854775808 false h3)]
def okc (q:Rat):Bool:=decide (-1152921504606846976≤clq q∧clq q≤1152921504606846976)
def civ (q:Rat):Int:=if okc q then clq q else 0
def cie (q:Rat):Int:=if okc q then 0 else 5
theorem Zh {z:Int}(h1 : -1152921504606846976≤z)(h2:z≤1152921504606846976):inR z=true:=by unfold inR;simp;omega
theorem Zi {z:Int}(h:inR z=true) : -9223372036854775808≤z∧z≤9223372036854775807:=by unfold inR at h;simp at h;omega
theorem D1:Sp Tryz.prog I 119 [fc c 12 p] (.tu [ci (civ p),ci (cie p)]):=by
 have t0:=AaA (I:=I) (Cb (k:=13) (z:=clq p) (by omega))
 unfold civ cie;cases hr:inR (clq p) with
 | false =>
  have ho:okc p=false:=by
   cases h:okc p with
   | false=>rfl
   | true=>have h:=of_decide_eq_true h;rw[Zh h.1 h.2] at hr;cases hr
  rw[ho];rw[(EI hr).1,(EI hr).2] at t0;exact sr 23 [po (Vh (I:=I) (c:=c) (k:=12) (p:=p) (by omega)),po (t0),pa]
 | true =>
  rw[(JK hr).1,(JK hr).2] at t0;obtain ⟨b1,b2⟩:=Zi hr;by_cases h1:clq p < -1152921504606846976
  ·rw[show okc p=false from decide_eq_false (by omega)]
   exact sr 23 [po (Vh (I:=I) (c:=c) (k:=12) (p:=p) (by omega)),po (t0),pa,pk (Al 2 (clq p) (-1152921504606846976))]
  ·by_cases h2:clq p > 1152921504606846976
   ·rw[show okc p=false from decide_eq_false (by omega)]
    exact sr 23 [po (Vh (I:=I) (c:=c) (k:=12) (p:=p) (by omega)),po (t0),pa,pk (Ai 2 (clq p) (-1152921504606846976)),pk (Cc 2 (clq p) 1152921504606846976)]
   ·rw[show okc p=true from decide_eq_true (by omega)]
    exact sr 23 [po (Vh (I:=I) (c:=c) (k:=12) (p:=p) (by omega)),po (t0),pa,pk (Ai 2 (clq p) (-1152921504606846976)),pk (Aq 2 (clq p) 1152921504606846976)]
theorem BO:Sp Tryz.prog I 72 [fc c 12 p] (.tu [ci (civ p),ci (cie p)]):=by
 have t0:=XT (I:=I) (Cb (k:=13) (z:=clq p) (by omega))
 unfold civ cie;cases hr:inR (clq p) with
 | false =>
  have ho:okc p=false:=by
   cases h:okc p with
   | false=>rfl
   | true=>have h:=of_decide_eq_true h;rw[Zh h.1 h.2] at hr;cases hr
  rw[ho];rw[(EI hr).1,(EI hr).2] at t0;exact sr 25 [po (Mq (I:=I) (c:=c) (p:=p)),po (t0),pa]
 | true =>
  rw[(JK hr).1,(JK hr).2] at t0;obtain ⟨b1,b2⟩:=Zi hr;by_cases h1:clq p < -1152921504606846976
  ·rw[show okc p=false from decide_eq_false (by omega)]
   exact sr 25 [po (Mq (I:=I) (c:=c) (p:=p)),po (t0),pa,pk (Al 2 (clq p) (-1152921504606846976))]
  ·by_cases h2:clq p > 1152921504606846976
   ·rw[show okc p=false from decide_eq_false (by omega)]
    exact sr 25 [po (Mq (I:=I) (c:=c) (p:=p)),po (t0),pa,pk (Ai 2 (clq p) (-1152921504606846976)),pk (Cc 2 (clq p) 1152921504606846976)]
   ·rw[show okc p=true from decide_eq_true (by omega)]
    exact sr 25 [po (Mq (I:=I) (c:=c) (p:=p)),po (t0),pa,pk (Ai 2 (clq p) (-1152921504606846976)),pk (Aq 2 (clq p) 1152921504606846976)]
theorem YV {g:FuncId}{res:TV}(h:Lq p k→Sp Tryz.prog I g [fc c k p] res)(hk:k≤262144):Sp Tryz.prog I g [fc c k p] res:=by
 intro N w vs hI hl hv;obtain ⟨v,r,e,h1,h2⟩:=hv;obtain ⟨n,d,a,b,k0,hq,hs⟩:=Kr h1;have x1:Fk (aP k n) (aP k d) n d k:=⟨Gj (by omega),Gj (by omega),a,b,k0,hk⟩
 exact h (hq▸x1.lq) N w vs hI hl ⟨v,r,e,h1,h2⟩
theorem Sa:Sp Tryz.prog I 84 [fc c 12 p] (tfc true 12 p):=YV (fun l=>by
 have s:Sp Tryz.prog I 84 [fc c 12 p] (tfc true 14 (p+0)):=sr 6 [po (Sp.wk (args':=[.ag [.b (.it (fF c 12 p))],.ag [.o false,.z,.o false,.z]]) (Afd (I:=I) (c:=c) (c':=false) (k:=12) (j:=1) (p:=p) (q:=0) (by omega)) ⟨CTle.refl,Xn,trivial⟩)]
 rw[Rat.add_zero] at s;exact s.rs (UT l).tv) (by omega)
end
structure Nd where
 par:Int
 fst:Int
 nxt:Int
 tog:Bool
 q:Rat
 st:Int
abbrev Ag (c:Bool)(x:Nd):List It0:=[.lit (.int .i64 x.par),.lit (.int .i64 x.fst),.lit (.int .i64 x.nxt),.lit (.bool x.tog),.it (fF c 12 x.q),.lit (.int .i64 x.st)]
abbrev trI (c:Bool)(L:List Nd):Item:=slI 9 (L.map (Ag c))
def tat (L:List Nd)(i:Nat):Nd:=L.getD i ⟨0,0,0,false,0,0⟩
theorem Dm {L:List Nd}{i:Nat}(h:i < L.length):L[i]? = some (tat L i):=by unfold tat;rw[List.getD_eq_getElem?_getD,List.getElem?_eq_getElem h];rfl
theorem AR {L:List Nd}{i:Nat}{f:Nd→List It0}(h:i < L.length):(L.map f)[i]? = some (f (tat L i)):=map_some (Dm h)
abbrev trT (c:Bool)(L:List Nd)(f:Bool)(z:Int):CT := .ag [.b (.it (trI c L)),.o f,.i z]
abbrev ndT (c:Bool)(x:Nd):CT := .ag [.i x.par,.i x.fst,.i x.nxt,.o x.tog,.b (.it (fF c 12 x.q)),.i x.st]
def K8 (L:List Nd)(i:Nat):List Nat :=
 if h:0 < i∧(tat L i).par.toNat < i then i::K8 L (tat L i).par.toNat else []
termination_by i
decreasing_by exact h.2
def Dn (L:List Nd)(m:Nat):Prop := ∀ i,0 < i→i≤m→0≤(tat L i).par∧(tat L i).par < (i:Int)
theorem Dn.nat {L:List Nd}{m i:Nat}(h:Dn L m)(h0:0 < i)(hi:i≤m) : ∃ j:Nat,(tat L i).par=(j:Int)∧j < i:=⟨(tat L i).par.toNat,by have:=h i h0 hi;omega,by have:=h i h0 hi;omega⟩
theorem Pk (L:List Nd):K8 L 0=[]:=by rw[K8];simp
theorem Pm {L:List Nd}{i j:Nat}(h:(tat L i).par=(j:Int))(hj:j < i):K8 L i=i::K8 L j:=by
 rw[K8,dif_pos ⟨by omega,by rw[h];exact hj⟩,h];rfl
def Fb (L:List Nd)(i:Nat)(f n:Int):Bool:=(K8 L i).any fun x=>decide ((tat L x).fst=f)&&decide ((tat L x).nxt=n)
theorem Xb (L:List Nd)(f n:Int):Fb L 0 f n=false:=by unfold Fb;rw[Pk];rfl
theorem Pe {L:List Nd}{i j:Nat}{f n:Int}(h:(tat L i).par=(j:Int))(hj:j < i):Fb L i f n=((decide ((tat L i).fst=f)&&decide ((tat L i).nxt=n))||Fb L j f n):=by
 unfold Fb;rw[Pm h hj,List.any_cons]
def BN (z:Int):Bool:=decide (-288230376151711744≤z)&&decide (z≤288230376151711744)
def DQ (f:Bool)(z:Int)(q:Rat):Bool:=f&&(okc q&&decide (z≤civ q))
section
variable {I:WInv}{c:Bool}
theorem Qx (z:Int):Sp Tryz.prog I 118 [ci z] (lb (BN z)):=by
 unfold BN;by_cases h1 : -288230376151711744≤z
 ·by_cases h2:z≤288230376151711744
  ·rw[decide_eq_true h1,decide_eq_true h2]
   exact sr 9 [pk (Bx 3 z (-288230376151711744)),pk (QD 3 z 288230376151711744)]
  ·rw[decide_eq_true h1,decide_eq_false h2]
   exact sr 9 [pk (Bx 3 z (-288230376151711744)),pk (Lp 3 z 288230376151711744)]
 ·rw[decide_eq_false h1]
  exact sr 9 [pk (By 3 z (-288230376151711744))]
theorem EN (z:Int):Sp Tryz.prog I 41 [ci z] (lb (BN z)):=by
 unfold BN;by_cases h1 : -288230376151711744≤z
 ·by_cases h2:z≤288230376151711744
  ·rw[decide_eq_true h1,decide_eq_true h2]
   exact sr 9 [pk (Bx 3 z (-288230376151711744)),pk (QD 3 z 288230376151711744)]
  ·rw[decide_eq_true h1,decide_eq_false h2]
   exact sr 9 [pk (Bx 3 z (-288230376151711744)),pk (Lp 3 z 288230376151711744)]
 ·rw[decide_eq_false h1]
  exact sr 9 [pk (By 3 z (-288230376151711744))]
theorem Gx {q:Rat}(h:okc q=true):cie q=0:=by unfold cie;rw[h];rfl
theorem Lm {q:Rat}(h:okc q=false):cie q=5:=by unfold cie;rw[h];rfl
theorem MG (L:List Nd)(f:Bool)(z:Int)(c':Bool)(x:Nd):Sp Tryz.prog I 121 [trT c L f z,ndT c' x] (lb (DQ f z x.q)):=by
 unfold DQ;cases f with
 | false=>exact sr 25 [po (D1 (I:=I) (c:=c') (p:=x.q))]
 | true =>
  cases h:okc x.q with
  | false =>
   have e:=Lm h;exact sr 25 [po (D1 (I:=I) (c:=c') (p:=x.q)),pk (Af 32 (cie x.q) 0)]
  | true =>
   have e:=Gx h;by_cases h2:z≤civ x.q
   ·rw[decide_eq_true h2]
    exact sr 25 [po (D1 (I:=I) (c:=c') (p:=x.q)),pk (Am 32 (cie x.q) 0),pk (Bx 3 (civ x.q) z)]
   ·rw[decide_eq_false h2]
    exact sr 25 [po (D1 (I:=I) (c:=c') (p:=x.q)),pk (Am 32 (cie x.q) 0),pk (By 3 (civ x.q) z)]
def Jn (c:Bool)(L:List Nd)(f:Bool)(z x y k:Int):Go.Proofs.YtdgbealknnmkoaaGreatDoor.St:=⟨[(4,.p 0 0),(2,.i x),(3,.i y),(9,.i k)],[(0,some ⟨46,none,[.b (.it (slI 9 ((L).map (Ag c)))),.o f,.i z]⟩)],50⟩
theorem TJ (L : List Nd) (f : Bool) (z : Int) (node : Nat) (x y : Int) (hD : Dn L node) (hn : node < L.length) : Sp Tryz.prog I 160 [trT c L f z, ci (node : Int), ci x, ci y] (lb (Fb L node x y)) := by
 have rd : ∀ i j:Nat,0 < i→i≤node→(tat L i).par=(j:Int)→(decide ((tat L i).fst=x)&&decide ((tat L i).nxt=y))=false→Rnd Tryz.prog I 36 (AQ Tryz.prog 160 0) (Jn c L f z x y (i:Int)) .normal (Jn c L f z x y (j:Int)):=by
  intro i j h0 hle hj hno;have hi:i < L.length:=by omega
  by_cases h1:(tat L i).fst=x
  ·have h2 : ¬ (tat L i).nxt=y:=fun h2=>by rw[decide_eq_true h1,decide_eq_true h2] at hno;cases hno
   have r:Rnd Tryz.prog I 36 (AQ Tryz.prog 160 0) (Jn c L f z x y (i:Int)) .normal (Jn c L f z x y (tat L i).par):=rr [pk (Cc 3 (i:Int) 0),pk (Aj 44 103 9 ((L).map (Ag c)) i (i:Int) ((Ag c) (tat L i)) (AR hi)),pk (AT 3 ((tat L i).fst) x true (decide_eq_true h1)),pk (AT 3 ((tat L i).nxt) y false (decide_eq_false h2)),pk (Aj 44 103 9 ((L).map (Ag c)) i (i:Int) ((Ag c) (tat L i)) (AR hi))];rw[hj] at r;exact r
  ·have r:Rnd Tryz.prog I 36 (AQ Tryz.prog 160 0) (Jn c L f z x y (i:Int)) .normal (Jn c L f z x y (tat L i).par):=rr [pk (Cc 3 (i:Int) 0),pk (Aj 44 103 9 ((L).map (Ag c)) i (i:Int) ((Ag c) (tat L i)) (AR hi)),pk (AT 3 ((tat L i).fst) x false (decide_eq_false h1)),pk (Aj 44 103 9 ((L).map (Ag c)) i (i:Int) ((Ag c) (tat L i)) (AR hi))]
   rw[hj] at r;exact r
 cases hd:Fb L node x y with
 | false =>
  have lo:LoopTr Tryz.prog I 36 (AQ Tryz.prog 160 0) (Jn c L f z x y (node:Int)) (.exit 0) ⟨[],[],50⟩:=by
   refine Kf (ι:=Nat) (by simp) (fun i=>Jn c L f z x y (i:Int)) id (fun i=>i≤node∧Fb L i x y=false) node ⟨Nat.le_refl _,hd⟩ ?_
   rintro i ⟨h1,h2⟩;by_cases h0:i=0
   ·subst h0
    right;exact rr [pk (Aq 3 ((0:Nat):Int) 0)]
   ·left
    obtain ⟨j,hj,hlt⟩:=hD.nat (Nat.pos_of_ne_zero h0) h1;rw[Pe hj hlt,Bool.or_eq_false_iff] at h2;exact ⟨j,⟨by omega,h2.2⟩,hlt,rd i j (Nat.pos_of_ne_zero h0) h1 hj h2.1⟩
  exact sr 36 [pl (lo)]
 | true =>
  have lo:LoopTr Tryz.prog I 36 (AQ Tryz.prog 160 0) (Jn c L f z x y (node:Int)) .ret ⟨[(8,lb true)],[],50⟩:=by
   refine Kf (ι:=Nat) (by simp) (fun i=>Jn c L f z x y (i:Int)) id (fun i=>i≤node∧Fb L i x y=true) node ⟨Nat.le_refl _,hd⟩ ?_
   rintro i ⟨h1,h2⟩;by_cases h0:i=0
   ·subst h0;rw[Xb] at h2;cases h2
   ·obtain ⟨j,hj,hlt⟩:=hD.nat (Nat.pos_of_ne_zero h0) h1
    cases hno:(decide ((tat L i).fst=x)&&decide ((tat L i).nxt=y)) with
    | false =>
     left;rw[Pe hj hlt,hno,Bool.false_or] at h2;exact ⟨j,⟨by omega,h2⟩,hlt,rd i j (Nat.pos_of_ne_zero h0) h1 hj hno⟩
    | true =>
     right;rw[Bool.and_eq_true] at hno;have hi:i < L.length:=by omega
     exact rr [pk (Cc 3 (i:Int) 0),pk (Aj 44 103 9 ((L).map (Ag c)) i (i:Int) ((Ag c) (tat L i)) (AR hi)),pk (AT 3 ((tat L i).fst) x true hno.1),pk (AT 3 ((tat L i).nxt) y true hno.2)]
  exact sr 36 [pl (lo)]
end
abbrev De:=Int×Int×Bool
abbrev Av (x:De):List It0:=[.lit (.int .i64 x.1),.lit (.int .i64 x.2.1),.lit (.bool x.2.2)]
abbrev deI (D:List De):Item:=slI 3 (D.map Av)
def dat (D:List De)(i:Nat):De:=D.getD i (0,0,false)
theorem NF {D:List De}{i:Nat}(h:i < D.length):D[i]? = some (dat D i):=by unfold dat;rw[List.getD_eq_getElem?_getD,List.getElem?_eq_getElem h];rfl
theorem Bb {D:List De}{i:Nat}{f:De→List It0}(h:i < D.length):(D.map f)[i]? = some (f (dat D i)):=map_some (NF h)
def swp (D:List De):Nat→List De
 | 0=>D
 | i+1=>((swp D i).set i (dat (swp D i) (D.length - 1 - i))).set (D.length - 1 - i) (dat (swp D i) i)
theorem JL (D:List De) : ∀ i,(swp D i).length=D.length
 | 0=>rfl
 | i+1=>by rw[swp,List.length_set,List.length_set,JL D i]
theorem Ul (D:List De) : ∀ i,2*i≤D.length → ∀ x,x < D.length→(swp D i)[x]? = if x < i∨D.length≤x+i then D[D.length - 1 - x]? else D[x]?
 | 0,_,x,hx=>by rw[if_neg (by omega)];rfl
 | i+1,hi,x,hx=>by
  have h1:=Ul D i (by omega)
  have hl:=JL D i;rw[swp,List.getElem?_set,List.getElem?_set,List.length_set,hl];have e1:(swp D i)[D.length - 1 - i]? = some (dat (swp D i) (D.length - 1 - i)):=NF (by rw[hl];omega)
  have e2:(swp D i)[i]? = some (dat (swp D i) i):=NF (by rw[hl];omega)
  rw[h1 _ (by omega),if_neg (by omega)] at e1 e2
  by_cases h2:D.length - 1 - i=x
  ·rw[if_pos h2,if_pos (by omega),if_pos (by omega),←e2,show D.length - 1 - x=i by omega]
  ·rw[if_neg h2]
   by_cases h3:i=x
   ·rw[if_pos h3,if_pos (by omega),if_pos (by omega),←e1,show D.length - 1 - x=D.length - 1 - i by omega]
   ·rw[if_neg h3,h1 x hx]
    by_cases h4:x < i∨D.length≤x+i
    ·rw[if_pos h4,if_pos (by omega)]
    ·rw[if_neg h4,if_neg (by omega)]
theorem AaG (D:List De):swp D (D.length / 2)=D.reverse:=by
 apply List.ext_getElem?;intro x;by_cases hx:x < D.length
 ·rw[Ul D _ (by omega) x hx,List.getElem?_reverse hx]
  by_cases h:x < D.length / 2∨D.length≤x+D.length / 2
  ·rw[if_pos h]
  ·rw[if_neg h,show D.length - 1 - x=x by omega]
 ·rw[List.getElem?_eq_none (by rw[JL];omega),List.getElem?_eq_none (by rw[List.length_reverse];omega)]
theorem PM {D:List De} : ∀ r∈D.map Av,Cn r=3:=by intro r hr;obtain ⟨x,_,rfl⟩:=List.mem_map.1 hr;rfl
theorem PN {D:List De}:okR 3 (D.map Av):=by
 intro r hr;obtain ⟨x,_,rfl⟩:=List.mem_map.1 hr;refine ⟨rfl,fun y hy => ?_⟩
 simp at hy;rcases hy with rfl | rfl | rfl <;> exact Nat.one_pos
theorem Ue {D:List De}{i:Nat}(h:i < D.length)(x:De):EH (Aa (D.map Av)) (i*3) [.i x.1,.i x.2.1,.o x.2.2]=some (Aa ((D.set i x).map Av)):=by
 have:=Pv (sz:=3) (r:=Av (dat D i)) (r':=Av x) (new:=[.i x.1,.i x.2.1,.o x.2.2]) (Bb (f:=Av) h) PN (fo:=0) rfl;rw[←List.map_set] at this;exact this
def Uy (D:List De)(n:Nat)(a b:Int):Go.Proofs.YtdgbealknnmkoaaGreatDoor.St:=⟨[(0,.s 0),(2,.i a),(3,.i b)],[(0,some ⟨101,some (3,n),Aa ((D).map Av)⟩)],50⟩
section
variable {I:WInv}{c:Bool}
theorem Ri (D:List De)(hl:D.length≤1000000):SpM Tryz.prog I 190 [(0,some ⟨101,some (3,D.length),Aa (D.map Av)⟩)] [.one (.sl 0)] [(0,some ⟨101,some (3,D.length),Aa (D.reverse.map Av)⟩)] (.tu []):=by
 obtain ⟨n,hn⟩ : ∃ n,D.length=n:=⟨_,rfl⟩;rw[hn];have lo:LoopTr Tryz.prog I 28 (AQ Tryz.prog 190 0) (Uy (swp D 0) n ((0:Nat):Int) ((n:Int) - 1 - ((0:Nat):Int))) (.exit 0) ⟨[(0,.s 0)],[(0,some ⟨101,some (3,n),Aa ((D.reverse).map Av)⟩)],50⟩:=by
  refine Bz (by simp) (fun i=>Uy (swp D i) n (i:Int) ((n:Int) - 1 - (i:Int))) (n / 2) (fun i hi => ?_) ?_
  ·have h1:i < (swp D i).length:=by rw[JL];omega
   have h2:n - 1 - i < (swp D i).length:=by rw[JL];omega
   have r:Rnd Tryz.prog I 28 (AQ Tryz.prog 190 0) (Uy (swp D i) n (i:Int) ((n:Int) - 1 - (i:Int))) .normal (Uy (((swp D i).set i (dat (swp D i) (n - 1 - i))).set (n - 1 - i) (dat (swp D i) i)) n ((i:Int)+1) ((n:Int) - 1 - (i:Int) - 1)) :=
    Rnd.cut (n:=50) (show Rnd _ _ _ _ _ _ ⟨[(0,.s 0),(2,.i ((i:Int)+1)),(3,.i (((n:Int) - 1 - (i:Int)) - 1))],[(0,some ⟨101,some (3,n),Aa ((((swp D i).set i (dat (swp D i) (n - 1 - i))).set (n - 1 - i) (dat (swp D i) i)).map Av)⟩)],75⟩ from rr [pk (Al 3 (i:Int) ((n:Int) - 1 - (i:Int))),⟨.ix ((n:Int) - 1 - (i:Int)) (n - 1 - i) n,⟨by omega,by omega⟩⟩,⟨.part (Aa ((swp D i).map Av)) ((n - 1 - i)*3) 3 [.i ((dat (swp D i) (n - 1 - i)).1),.i ((dat (swp D i) (n - 1 - i)).2.1),.o ((dat (swp D i) (n - 1 - i)).2.2)],(LY (sz:=3) (r:=Av (dat (swp D i) (n - 1 - i))) (Bb h2) PN (fo:=0) (n:=3) rfl)⟩,⟨.ix (i:Int) i n,⟨by omega,by omega⟩⟩,⟨.part (Aa ((swp D i).map Av)) (i*3) 3 [.i ((dat (swp D i) i).1),.i ((dat (swp D i) i).2.1),.o ((dat (swp D i) i).2.2)],(LY (sz:=3) (r:=Av (dat (swp D i) i)) (Bb h1) PN (fo:=0) (n:=3) rfl)⟩,⟨.ix (i:Int) i n,⟨by omega,by omega⟩⟩,⟨.upd (Aa ((swp D i).map Av)) (i*3) [.i ((dat (swp D i) (n - 1 - i)).1),.i ((dat (swp D i) (n - 1 - i)).2.1),.o ((dat (swp D i) (n - 1 - i)).2.2)] (Aa (((swp D i).set i (dat (swp D i) (n - 1 - i))).map Av)),(Ue h1 (dat (swp D i) (n - 1 - i)))⟩,⟨.ix ((n:Int) - 1 - (i:Int)) (n - 1 - i) n,⟨by omega,by omega⟩⟩,⟨.upd (Aa (((swp D i).set i (dat (swp D i) (n - 1 - i))).map Av)) ((n - 1 - i)*3) [.i ((dat (swp D i) i).1),.i ((dat (swp D i) i).2.1),.o ((dat (swp D i) i).2.2)] (Aa ((((swp D i).set i (dat (swp D i) (n - 1 - i))).set (n - 1 - i) (dat (swp D i) i)).map Av)),(Ue (by rw[List.length_set];exact h2) (dat (swp D i) i))⟩,pk (AA 3 (i:Int) 1 ⟨by omega,by omega⟩),pk (NN 3 ((n:Int) - 1 - (i:Int)) 1 ⟨by omega,by omega⟩)]) rfl
   have e:((swp D i).set i (dat (swp D i) (n - 1 - i))).set (n - 1 - i) (dat (swp D i) i)=swp D (i+1):=by rw[swp,hn]
   rw[e,show (n:Int) - 1 - (i:Int) - 1=(n:Int) - 1 - ((i+1:Nat):Int) by omega] at r
   exact r
  ·have e:=AaG D
   rw[hn] at e;rw[e];exact Rnd.cut (n:=50) (show Rnd _ _ _ _ _ _ ⟨[(0,.s 0)],[(0,some ⟨101,some (3,n),Aa ((D.reverse).map Av)⟩)],53⟩ from rr [pk (Ai 3 ((n / 2:Nat):Int) ((n:Int) - 1 - ((n / 2:Nat):Int)))]) rfl
 rw[show (n:Int) - 1 - ((0:Nat):Int)=(n:Int) - 1 by omega] at lo
 exact sm 28 [pk (NN 3 (n:Nat) 1 ⟨by omega,by omega⟩),pl (lo)]
def dcn (x:Nd):De:=(x.fst,x.nxt,x.tog)
def C9 (L:List Nd)(i:Nat):List De:=(K8 L i).map fun x=>dcn (tat L x)
theorem M0 (L:List Nd):C9 L 0=[]:=by unfold C9;rw[Pk];rfl
theorem M1 {L:List Nd}{i j:Nat}(h:(tat L i).par=(j:Int))(hj:j < i):C9 L i=dcn (tat L i)::C9 L j:=by unfold C9;rw[Pm h hj,List.map_cons]
theorem Aaw (L:List Nd)(i:Nat):(K8 L i).length≤i:=by
 induction i using Nat.strongRecOn with
 | _ i ih =>
  rw[K8];by_cases h:0 < i∧(tat L i).par.toNat < i
  ·rw[dif_pos h,List.length_cons]
   have:=ih _ h.2;omega
  ·rw[dif_neg h];exact Nat.zero_le _
theorem KC (L:List Nd)(i:Nat):(C9 L i).length≤i:=by unfold C9;rw[List.length_map];exact Aaw L i
def Be (L:List Nd)(i:Nat):List De:=(C9 L i).reverse
theorem YR {nt t k nx:Nat}{E:Env}{B:Bxs}(T s:Nat)(h:(avE k E&&avB k B&&Nat.blt k nx&&Nat.ble 4 k)=true)(hB:AF B nx=none):Leads I nt ⟨(t,BA (.slice none 0 0))::E,B,nx⟩ ⟨(t,.s k)::E,(k,some ⟨T,some (s,0),[]⟩)::B,nx+1⟩:=by
 simp only[Bool.and_eq_true] at h;have:=Nat.le_of_ble_eq_true h.2;exact (OG T s).trans (KK (k:=k) h.1.1.1 h.1.1.2 rfl (Nat.lt_succ_of_lt (Fh h.1.2)) hB)
def Na (c:Bool)(L:List Nd)(f:Bool)(z:Int)(C:List De)(k:Int):Go.Proofs.YtdgbealknnmkoaaGreatDoor.St:=⟨[(5,.s 40),(2,.p 0 0),(6,.i k)],[(40,some ⟨101,some (3,((C).map Av).length),Aa ((C).map Av)⟩),(0,some ⟨46,none,[.b (.it (slI 9 ((L).map (Ag c)))),.o f,.i z]⟩)],50⟩
theorem Wm (L:List Nd)(f:Bool)(z:Int)(node:Nat)(hD:Dn L node)(hn:node < L.length)(hl:L.length≤1000000):LoopTr Tryz.prog I 28 (AQ Tryz.prog 162 0) (Na c L f z [] (node:Int)) (.exit 0) ⟨[(5,.s 40)],[(40,some ⟨101,some (3,((C9 L node).map Av).length),Aa ((C9 L node).map Av)⟩)],50⟩:=by
 refine Kf (ι:=Nat×List De) (by simp) (fun x=>Na c L f z x.2 (x.1:Int)) (·.1) (fun x=>x.1≤node∧x.2++C9 L x.1=C9 L node) (node,[]) ⟨Nat.le_refl _,rfl⟩ ?_
 rintro ⟨i,C⟩ ⟨h1,h2⟩
 dsimp only at h1 h2 ⊢
 by_cases h0:i=0
 ·subst h0
  right;rw[M0,List.append_nil] at h2;subst h2;exact Rnd.cut (n:=50) (show Rnd _ _ _ _ _ _ ⟨[(5,.s 40)],[(40,some ⟨101,some (3,((C9 L node).map Av).length),Aa ((C9 L node).map Av)⟩)],52⟩ from rr [pk (Aq 3 ((0:Nat):Int) 0)]) rfl
 ·left
  obtain ⟨j,hj,hlt⟩:=hD.nat (Nat.pos_of_ne_zero h0) h1;rw[M1 hj hlt] at h2;refine ⟨(j,C++[dcn (tat L i)]),⟨by dsimp only;omega,by dsimp only;rw[List.append_assoc];exact h2⟩,hlt,?_⟩
  have hi:i < L.length:=by omega
  have hlen:C.length≤node:=by
   have e:=congrArg List.length h2;have:=KC L node;rw[List.length_append] at e;omega
  have r:Rnd Tryz.prog I 28 (AQ Tryz.prog 162 0) (Na c L f z C (i:Int)) .normal (Na c L f z (C++[dcn (tat L i)]) (tat L i).par):=by
   unfold Na;rw[List.map_append,List.map_singleton];exact Rnd.grow (k:=40) (n:=50) (rows:=C.map Av) (row:=Av (dcn (tat L i))) (show Rnd _ _ _ _ _ _ ⟨[(5,.s 60),(2,.p 0 0),(6,.i ((tat L i).par))],[(60,some ⟨101,some (3,(C.map Av).length+1),Aa (C.map Av)++(Av (dcn (tat L i)):List It0).map It.b⟩),(0,some ⟨46,none,[.b (.it (slI 9 ((L).map (Ag c)))),.o f,.i z]⟩)],69⟩ from rr [pk (Cc 3 (i:Int) 0),pk (Aj 44 103 9 ((L).map (Ag c)) i (i:Int) ((Ag c) (tat L i)) (AR hi)),⟨.ap (((C).map Av).length) 1 24,⟨by rw[List.length_map];omega,by rw[List.length_map];simp[maxLen];omega⟩⟩,pk (Aj 44 103 9 ((L).map (Ag c)) i (i:Int) ((Ag c) (tat L i)) (AR hi))]) rfl rfl
  rw[hj] at r;exact r
theorem Abf (L:List Nd)(f:Bool)(z:Int)(node:Nat)(hD:Dn L node)(hn:node < L.length)(hl:L.length≤1000000):Sp Tryz.prog I 162 [trT c L f z,ci (node:Int)] (.t (deI (Be L node))):=by
 have hlen:=KC L node;have lo:=LoopTr.pre (YR (nx:=49) (t:=5) (k:=40) (E:=[(2,.p 0 0),(6,li (node:Int))]) (B:=[(0,some ⟨46,none,[.b (.it (trI c L)),.o f,.i z]⟩)]) 101 3 rfl rfl) (Wm (I:=I) (c:=c) L f z node hD hn hl);rw[List.length_map] at lo;unfold Be;generalize C9 L node=D at *;exact sr 28 [pl (lo),pom [40] (Ri (I:=I) (D) (by omega)),pm (AZ (I:=I) (nt:=28) (t:=5) (k:=40) (E:=[]) (B:=[]) (nx:=200) (T:=101) (n:=D.length) ((D.reverse).map Av) rfl (by simp) PM rfl)]
end
def It.sub0 (i:Item):It→It
 | .sl _ => .b (.it i)
 | x=>x
def CT.sub0 (i:Item):CT→CT
 | .one x => .one (x.sub0 i)
 | .ag l => .ag (l.map (It.sub0 i))
def It.ok0:It→Bool
 | .sl k=>Nat.beq k 0
 | .ptr _ _=>false
 | .clo _ _=>false
 | _=>true
def CT.ok0:CT→Bool
 | .one x=>x.ok0
 | .ag l=>l.all It.ok0
section
variable {P:Program}{I:WInv}{N N1:Nat→Prop}{w:World}{g:Gh}{i:Item}
theorem It.sub0_sem (hN : ∀ b,N b→N1 b)(hs : ∀ l,(It.sl 0).sem N w g l→i.T N1 w l){x:It}{l:List Value}(hx:x.ok0=true)(h:x.sem N w g l):(x.sub0 i).sem N1 w G0 l:=by
 cases x with
 | b x=>exact It0.step h (WStep.refl _ _) hN
 | ptr k off=>cases hx
 | clo f p=>cases hx
 | fp x=>obtain ⟨b,off,h1,h2⟩:=h;exact ⟨b,off,h1,h2.step (WStep.refl _ _) hN⟩
 | sl k =>
  have:=Nat.eq_of_beq_eq_true hx;subst this;exact hs l h
theorem O8 (hN : ∀ b,N b→N1 b)(hs : ∀ l,(It.sl 0).sem N w g l→i.T N1 w l) : ∀ {xs:List It} {l:List Value},xs.all It.ok0=true→Bl N w g xs l→Bl N1 w G0 (xs.map (It.sub0 i)) l
 | [],_,_,h=>h
 | x::xs,_,hn,⟨l1,l2,e,h1,h2⟩=>by
  simp only[List.all_cons,Bool.and_eq_true] at hn;exact ⟨l1,l2,e,It.sub0_sem hN hs hn.1 h1,O8 hN hs hn.2 h2⟩
theorem CT.sub0_sem (hN : ∀ b,N b→N1 b)(hs : ∀ l,(It.sl 0).sem N w g l→i.T N1 w l){c:CT}{v:Value}(hc:c.ok0=true)(h:c.sem N w g v):(c.sub0 i).sem N1 w G0 v:=by
 cases c with
 | one x=>exact It.sub0_sem hN hs hc h
 | ag l=>obtain ⟨vs,e,h1⟩:=h;exact ⟨vs,e,O8 hN hs hc h1⟩
theorem Po (hN : ∀ b,N b→N1 b)(hs : ∀ l,(It.sl 0).sem N w g l→i.T N1 w l) : ∀ {cs:List CT} {vs:List Value},cs.all CT.ok0=true→all2 (CT.sem N w g) cs vs→all2 (CT.sem N1 w G0) (cs.map (CT.sub0 i)) vs
 | [],_,_,h=>h
 | c::cs,_,hn,⟨v,l,e,h1,h2⟩=>by
  simp only[List.all_cons,Bool.and_eq_true] at hn;exact ⟨v,l,e,CT.sub0_sem hN hs hn.1 h1,Po hN hs hn.2 h2⟩
theorem R4 {K:Nat→Prop}{k T sz n:Nat}{rows:List (List It0)}(hbox:BoxSem N w g K k ⟨T,some (sz,n),Aa rows⟩)(hn:n=rows.length)(hw : ∀ r∈rows,Cn r=sz){l:List Value}(h:(It.sl k).sem N w g l):(slI sz rows).T (fun b=>N b∨AJ g k=some b) w l:=by
 obtain ⟨A,c,xs,g1,g2,g3,g4⟩:=hbox.own rfl;have hN : ∀ b,N b→(N b∨AJ g k=some b):=fun b hb => .inl hb
 have hkb:AJ g k=A.map (·.block):=by unfold AJ;rw[g1];cases A <;> rfl
 obtain ⟨A',n',c',e1,e2⟩:=h;rw[g1] at e1;injection e1 with e1;injection e1 with e1 e3 e4;subst e1 e3 e4 hn;rcases g2 with ⟨rfl,h0,rfl,rfl⟩ | ⟨b,cs,rfl,r2,r3,r4,r5,r6,r7⟩
 ·exact ⟨none,0,e2,by omega,by simp[maxLen],fun hr=>absurd (List.eq_nil_of_length_eq_zero h0) hr⟩
 ·refine ⟨_,c,e2,r3,r4,fun _=>⟨b,0,rfl,fun i r hi => ?_⟩⟩
  obtain ⟨k1,k2⟩:=PK hw (Ga g3);have k3:=k2 i r hi;have hlen:=Hs k3;rw[hw r (List.mem_of_getElem? hi)] at hlen;refine ⟨cs,T,(0,0),_,.inr hkb,r2,?_,Gb (WStep.refl _ _) hN k3⟩;rw[Nat.zero_add,hlen,←r6];have hi':i < rows.length:=(List.getElem?_eq_some_iff.1 hi).1;have hm:i*sz+sz≤rows.length*sz:=by
   have:(i+1)*sz≤rows.length*sz:=Nat.mul_le_mul_right _ hi';rw[Nat.add_mul,Nat.one_mul] at this;exact this
  rw[List.drop_take,List.take_take,Nat.min_eq_left (by omega)]
theorem Lo {f:FuncId}{T sz n:Nat}{rows:List (List It0)}{args:List CT}{res res':TV}(h:Sp P I f (args.map (CT.sub0 (slI sz rows))) res)(hn:n=rows.length)(hw : ∀ r∈rows,Cn r=sz)(hok:args.all CT.ok0=true)
  (hres : ∀ N N' w v,res.sem N w G0 v→res'.sem N' w G0 v) (hnp:res'.noPtr=true):SpM P I f [(0,some ⟨T,some (sz,n),Aa rows⟩)] args [(0,some ⟨T,some (sz,n),Aa rows⟩)] res':=by
 intro N K w g vs hI hlow hK hbx hinj hg2 hargs;have hbox:=hbx 0 _ rfl;have hc:=h (fun b=>N b∨AJ g 0=some b) w vs (I.step (WStep.refl _ _) (fun b hb => .inl hb) hI) (fun b hb=>hb.elim (hlow b) fun hb=>hbox.lt hb) (Po (fun b hb => .inl hb) (fun l hl=>R4 hbox hn hw hl) hok hargs)
 refine hc.mono ?_;rintro en w' ⟨v,rfl,hv,hb⟩;refine ⟨v,N,g,rfl,fun _ h=>h,fun b hb => .inl hb,KBelow.of_below hb hK,fun k e he => ?_,hinj,fun _ _ _ h=>h,TV.noPtr_sem hnp (hres _ _ _ _ hv)⟩
 exact (hbx k e he).keep (WStep.of_below hb) (fun _ h=>h) (fun b hb=>(hbx k e he).notN hb) (fun b hb'=>hb.block b ((hbx k e he).lt hb')) (GExt.refl _)
theorem GT {u:Value} : ∀ (N N':Nat→Prop) (w:World) (v:Value),(BA u).sem N w G0 v→(BA u).sem N' w G0 v:=fun _ _ _ _ h=>h
def lnI (n:Nat):Item where
 n:=1
 T:=fun _ _ l => ∃ A c,l=[.slice A n c]
 step:=fun _ _ h=>h
 len:=fun ⟨A,c,e⟩=>by rw[e];rfl
 one:=fun ⟨A,c,e⟩ v hv=>by rw[e] at hv;simp at hv;subst hv;rfl
theorem AaM {sz n:Nat}{rows:List (List It0)}(hn:rows.length=n) : ∀ (N N':Nat→Prop) (w:World) (v:Value),(tit (slI sz rows)).sem N w G0 v→(tit (lnI n)).sem N' w G0 v:=by
 rintro N N' w v ⟨A,c,e,_⟩;subst hn;exact ⟨A,c,e⟩
theorem Tv (t e ty:TypeId)(n:Nat)(ht:P.underlying t=some (.slice e)):Bh P (.len #[t] ty) [tit (lnI n)] (li n):=by
 intro N w g vs hv;obtain ⟨v,rfl,A,c,e1⟩:=EG hv;injection e1 with e1;subst e1;exact ⟨_,w,by simp[OpK.run,Builtin.len_,AE ht,goInt],Below.refl _ _,(rfl:[_]=[_])⟩
end
theorem AeJ (a b a' b':Int)(c c':Bool)(w:World):(Op.equalIn 10000 101 (.agg #[.int .i64 a,.int .i64 b,.bool c]) (.agg #[.int .i64 a',.int .i64 b',.bool c'])).run Tryz.prog w = .ok (decide ((a,b,c)=(a',b',c'))) w:=by
 have u3:=Tryz.underlying3;have a3:=Tryz.isAgg3;have z3:=Tryz.sizeOf3;have u4:=Tryz.underlying4;have a4:=Tryz.isAgg4;have z4:=Tryz.sizeOf4;have hS:Tryz.prog.underlying 101=some (.struct (Tryz.prog.fieldsOf 101)):=by kernel_rfl
 have hp:Tryz.prog.stoodInHeld 101=false:=by kernel_rfl
 rw[show (10000:Nat)=9999+1 from rfl,run_equalIn_agg w 9999 101 _ _ hS hp];simp only[Program.fieldsOf,Tryz.underlying101]
 go_simp
 by_cases h1:a=a' <;> by_cases h2:b=b' <;> by_cases h3:c=c' <;> simp[h1,h2,h3]
abbrev dcl (x:De):List It:=[.i x.1,.i x.2.1,.o x.2.2]
theorem UZ {N:Nat→Prop}{w:World}{g:Gh}{x:De}{v:Value}(h:(TV.cv (.ag (dcl x))).sem N w g v):v = .agg #[.int .i64 x.1,.int .i64 x.2.1,.bool x.2.2]:=by
 obtain ⟨vs,e,l1,r1,e1,h1,l2,r2,e2,h2,l3,r3,e3,h3,h4⟩:=h;have h1:l1=[_]:=h1;have h2:l2=[_]:=h2;have h3:l3=[_]:=h3;have h4:r3=[]:=h4;subst h4 h3 h2 h1 e3 e2 e1;rw[e];rfl
theorem AcJ (x y:De)(r:Bool)(h:decide (x=y) = !r):Bh Tryz.prog (.bin .neq 101) [.cv (.ag (dcl x)),.cv (.ag (dcl y))] (lb r):=by
 intro N w g vs hv;obtain ⟨u,v,rfl,h1,h2⟩:=D9 hv;rw[UZ h1,UZ h2];refine ⟨.bool r,w,?_,Below.refl _ _,(rfl:[_]=[_])⟩;simp only[OpK.run,Sem.run_bind,run_eqGuard_agg (w:=w) .neq 101 (.tmp 0) (.tmp 1) _ _ (show Tryz.prog.eqGuardType Tryz.prog.depth 101=false by kernel_rfl),Result.andThen_ok,run_neq_struct,AeJ]
 rw[show decide ((x.1,x.2.1,x.2.2)=(y.1,y.2.1,y.2.2)) = !r from h,Bool.not_not]
section
variable {P:Program}{I:WInv}{nt:Nat}
theorem Rnd.cut2 {c:Code}{s:St}{ex:Exit}{k k' nx n T T':Nat}{sl sl':Option (Nat×Nat)}{E:Env}{B:Bxs}{rows rows':List (List It0)}(h:Rnd P I nt c s ex ⟨E,(k,some ⟨T,sl,Aa rows⟩)::(k',some ⟨T',sl',Aa rows'⟩)::B,nx⟩)
  (h1:(ltE n E&&ltB n B&&Nat.blt k n&&Nat.blt k' n&&Nat.ble 4 n)=true):Rnd P I nt c s ex ⟨E,(k,some ⟨T,sl,Aa rows⟩)::(k',some ⟨T',sl',Aa rows'⟩)::B,n⟩:=by
 simp only[Bool.and_eq_true] at h1;obtain ⟨⟨⟨⟨a1,a2⟩,a3⟩,a4⟩,a5⟩:=h1;have a6:=Nat.le_of_ble_eq_true a5;refine h.leads (Li a1 ?_);simp only[ltB,Aa,Qk,a2,a3,a4,Bool.and_self]
end
abbrev Ah (x:Int):List It0:=[.lit (.int .i64 x)]
def iat (D:List Int)(i:Nat):Int:=D.getD i 0
theorem Zk {D:List Int}{i:Nat}(h:i < D.length):D[i]? = some (iat D i):=by unfold iat;rw[List.getD_eq_getElem?_getD,List.getElem?_eq_getElem h];rfl
theorem Az {D:List Int}{i:Nat}{f:Int→List It0}(h:i < D.length):(D.map f)[i]? = some (f (iat D i)):=map_some (Zk h)
theorem Rf {D:List Int}:okR 1 (D.map Ah):=by
 intro r hr;obtain ⟨x,_,rfl⟩:=List.mem_map.1 hr;exact ⟨rfl,fun y hy=>by simp at hy;subst hy;exact Nat.one_pos⟩
theorem Ma {D:List Int} : ∀ r∈D.map Ah,Cn r=1:=by intro r hr;obtain ⟨x,_,rfl⟩:=List.mem_map.1 hr;rfl
theorem Aa5 {D:List Int}{i:Nat}(h:i < D.length)(x:Int):EH (Aa (D.map Ah)) (i*1) [.i x]=some (Aa ((D.set i x).map Ah)):=by
 have:=Pv (sz:=1) (r:=Ah (iat D i)) (r':=Ah x) (new:=[.i x]) (Az (f:=Ah) h) Rf (fo:=0) rfl;rw[←List.map_set] at this;exact this
theorem Un {D:List Int}{i:Nat}(h:i < D.length):G3 (Aa (D.map Ah)) (i*1) 1=some [.i (iat D i)]:=LY (sz:=1) (r:=Ah (iat D i)) (Az h) Rf (fo:=0) (n:=1) rfl
theorem KB (n:Nat):Aa ((List.replicate n (0:Int)).map Ah)=rep n [.i 0]:=by
 induction n with
 | zero=>rfl
 | succ n ih =>
  rw[List.replicate_succ',List.map_append,List.map_singleton,←Ny,ih]
  rfl
theorem Ki {D:List Int}{i j:Nat}{x:Int}(h:i < D.length):iat (D.set i x) j=if i=j then x else iat D j:=by
 unfold iat;rw[List.getD_eq_getElem?_getD,List.getD_eq_getElem?_getD,List.getElem?_set];by_cases hij:i=j
 ·subst hij;rw[if_pos rfl,if_pos rfl,if_pos h];rfl
 ·rw[if_neg hij,if_neg hij]
theorem EV (n j:Nat):iat (List.replicate n 0) j=0:=by
 unfold iat;rw[List.getD_eq_getElem?_getD,List.getElem?_replicate];split <;> rfl
def pp (L:List Nd)(m:Nat):Nat:=(tat L (2*m+1)).par.toNat
def dlt (L:List Nd):Nat→List Int
 | 0=>List.replicate L.length 0
 | m+1=>((dlt L m).set (2*m+1) (iat (dlt L m) (pp L m)+1)).set (2*m+2) (iat ((dlt L m).set (2*m+1) (iat (dlt L m) (pp L m)+1)) (2*m+1))
def clt (L:List Nd):Nat→List Int
 | 0=>List.replicate L.length 0
 | m+1=>(clt L m).set (pp L m) (iat (clt L m) (pp L m)+2)
theorem UX (L:List Nd) : ∀ m,(dlt L m).length=L.length
 | 0=>by rw[dlt,List.length_replicate]
 | m+1=>by rw[dlt,List.length_set,List.length_set,UX L m]
theorem Gu (L:List Nd) : ∀ m,(clt L m).length=L.length
 | 0=>by rw[clt,List.length_replicate]
 | m+1=>by rw[clt,List.length_set,Gu L m]
theorem SP {D:List Int}{i:Nat}{x lo hi:Int}(h : ∀ j,lo≤iat D j∧iat D j≤hi)(hx:lo≤x∧x≤hi) : ∀ j,lo≤iat (D.set i x) j∧iat (D.set i x) j≤hi:=by
 intro j;by_cases hi:i < D.length
 ·rw[Ki hi]
  split
  ·exact hx
  ·exact h j
 ·rw[List.set_eq_of_length_le (by omega)];exact h j
theorem AdV (L:List Nd) : ∀ m j,0≤iat (dlt L m) j∧iat (dlt L m) j≤(m:Int)
 | 0,j=>by rw[dlt,EV];omega
 | m+1,j=>by
  have h:=AdV L m;have h1 : ∀ j,0≤iat (dlt L m) j∧iat (dlt L m) j≤((m+1:Nat):Int):=fun j=>⟨(h j).1,by have:=(h j).2;omega⟩
  have h2:=SP (i:=2*m+1) (x:=iat (dlt L m) (pp L m)+1) h1 ⟨by have:=(h (pp L m)).1;omega,by have:=(h (pp L m)).2;omega⟩
  rw[dlt];exact SP h2 (h2 _) j
theorem TO (L:List Nd) : ∀ m j,0≤iat (clt L m) j∧iat (clt L m) j≤2*(m:Int)
 | 0,j=>by rw[clt,EV];omega
 | m+1,j=>by
  have h:=TO L m;have h1 : ∀ j,0≤iat (clt L m) j∧iat (clt L m) j≤2*((m+1:Nat):Int):=fun j=>⟨(h j).1,by have:=(h j).2;omega⟩
  rw[clt];exact SP h1 ⟨by have:=(h (pp L m)).1;omega,by have:=(h (pp L m)).2;omega⟩ j
def prB (L:List Nd)(m:Nat):Bool :=
 decide ((tat L (2*m+1)).par=(tat L (2*m+2)).par)&&decide (0≤(tat L (2*m+1)).par)&&decide ((tat L (2*m+1)).par < 2*(m:Int)+1) &&
 decide (dcn (tat L (2*m+1))=((tat L (2*m+1)).fst,(tat L (2*m+1)).nxt,true))&&decide (dcn (tat L (2*m+2))=((tat L (2*m+1)).fst,(tat L (2*m+1)).nxt,false)) &&
 decide (0≤(tat L (2*m+1)).fst)&&decide (0≤(tat L (2*m+1)).nxt)&&decide (¬ (tat L (2*m+1)).fst=(tat L (2*m+1)).nxt)
def spB (L:List Nd)(m:Nat):Bool :=
 decide (iat (dlt L (m+1)) (2*m+1)≤32)&&decide (iat (clt L (m+1)) (pp L m)≤2) && !Fb L (pp L m) (tat L (2*m+1)).fst (tat L (2*m+1)).nxt &&
 decide ((tat L (pp L m)).q≤(tat L (2*m+1)).q)&&decide ((tat L (pp L m)).q≤(tat L (2*m+2)).q)
def rtB (L:List Nd):Bool:=decide ((tat L 0).par = -1)&&decide (dcn (tat L 0)=(0,0,false))&&decide (L.length % 2=1)
def chB (L:List Nd)(i:Nat):Bool:=decide ((tat L i).st=1) == decide (0 < iat (clt L (L.length / 2)) i)
def shB (L:List Nd):Bool:=rtB L&&((List.range (L.length / 2)).all fun m=>prB L m&&spB L m)&&(List.range L.length).all (chB L)
theorem TE {L:List Nd}{m:Nat}(h : ∀ x,x < m→prB L x=true):Dn L (2*m):=by
 intro i h0 hi;obtain ⟨x,hx⟩ : ∃ x,i=2*x+1∨i=2*x+2:=⟨(i - 1) / 2,by omega⟩
 have hp:=h x (by omega)
 unfold prB at hp;simp only[Bool.and_eq_true,decide_eq_true_eq] at hp;obtain ⟨⟨⟨⟨⟨⟨⟨p1,p2⟩,p3⟩,_⟩,_⟩,_⟩,_⟩,_⟩:=hp;rcases hx with rfl | rfl
 ·exact ⟨p2,by omega⟩
 ·exact ⟨by omega,by omega⟩
theorem ZZ {a b:Rat}(h : ¬ b≤a):decide (Fe a b < 0)=true:=by
 unfold Fe;rw[if_pos (by grind)];rfl
theorem Xf {a b:Rat}(h:b≤a):decide (Fe a b < 0)=false:=by
 unfold Fe;rw[if_neg (by grind)]
 split <;> rfl
section
variable {I:WInv}{c:Bool}
theorem OW (ok:Nat→Bool) : ∀ M,(∀ x,x < M→ok x=true) ∨ ∃ i,i < M∧(∀ x,x < i→ok x=true)∧ok i=false
 | 0 => .inl fun x hx=>by omega
 | M+1=>by
  rcases OW ok M with h | ⟨i,h1,h2,h3⟩
  ·cases hM:ok M with
   | true =>
    refine .inl fun x hx => ?_
    by_cases e:x=M
    ·rw[e];exact hM
    ·exact h x (by omega)
   | false=>exact .inr ⟨M,by omega,h,hM⟩
  ·exact .inr ⟨i,by omega,h2,h3⟩
end
def CP (L:List Nd)(i:Nat):Int:=if (tat L i).st < 0∨2 < (tat L i).st then 5 else if okc (tat L i).q then 0 else 5
def VO (L:List Nd)(f:Bool)(z:Int)(i:Nat):Int:=if (tat L i).st=1 then 0 else if decide ((tat L i).st=2)=DQ f z (tat L i).q then 0 else 16
def tvc (L:List Nd)(f:Bool)(z:Int):Int :=
 if L.length < 1∨2000 < L.length then 10 else if BN z=false∨(z≠0∧f=false) then 5 else if AU (CP L) L.length 0≠0 then AU (CP L) L.length 0 else if shB L=false then 12 else AU (VO L f z) L.length 0
section
variable {I:WInv}{c:Bool}
theorem AdA {L:List Nd}{i:Nat}(h:CP L i≠0):CP L i=5:=by
 unfold CP at h ⊢;split
 ·rfl
 ·rename_i h1
  rw[if_neg h1] at h;split
  ·rename_i h2;rw[if_pos h2] at h;exact absurd rfl h
  ·rfl
end
theorem FX {L : List Nd} {f : Bool} {z : Int} (h : tvc L f z = 0) : 1 ≤ L.length ∧ L.length ≤ 2000 ∧ BN z = true ∧ (z = 0 ∨ f = true) ∧ AU (CP L) L.length 0 = 0 ∧ shB L = true ∧ AU (VO L f z) L.length 0 = 0 := by
 unfold tvc at h;by_cases h1:L.length < 1∨2000 < L.length
 ·rw[if_pos h1] at h;omega
 ·rw [if_neg h1] at h
  by_cases h2:BN z=false∨(z≠0∧f=false)
  ·rw[if_pos h2] at h;omega
  ·rw [if_neg h2] at h
   by_cases h3:AU (CP L) L.length 0≠0
   ·rw[if_pos h3] at h;exact absurd h h3
   ·rw[if_neg h3] at h
    by_cases h4:shB L=false
    ·rw[if_pos h4] at h;omega
    ·rw[if_neg h4] at h
     refine ⟨by omega,by omega,?_,?_,by omega,by simpa using h4,h⟩
     ·cases hc:BN z with
      | true=>rfl
      | false=>exact absurd (.inl hc) h2
     ·by_cases hz:z=0
      ·exact .inl hz
      ·cases f with
       | true=>exact .inr rfl
       | false=>exact absurd (.inr ⟨hz,rfl⟩) h2
theorem PH {L:List Nd}(h:shB L=true):L.length % 2=1∧Dn L (L.length - 1):=by
 unfold shB rtB at h;simp only[Bool.and_eq_true,List.all_eq_true,List.mem_range,decide_eq_true_eq] at h;obtain ⟨⟨⟨_,h1⟩,h2⟩,_⟩:=h;refine ⟨h1,?_⟩;have:=TE (L:=L) (m:=L.length / 2) fun x hx=>(h2 x hx).1
 rw[show L.length - 1=2*(L.length / 2) by omega]
 exact this
section
variable {P:Program}{I:WInv}{N:Nat→Prop}{w:World}
def It.fz (i:Item):It→It
 | .sl _ => .b (.it i)
 | x=>x
def CT.fz (i:Item):CT→CT
 | .one x => .one (x.fz i)
 | .ag l => .ag (l.map (It.fz i))
def TV.fz (i:Item):TV→TV
 | .cv c => .cv (c.fz i)
 | .tu l => .tu (l.map (CT.fz i))
def It.ok2:It→Bool
 | .sl k=>Nat.beq k 2
 | .ptr _ _=>false
 | .clo _ _=>false
 | _=>true
def CT.ok2:CT→Bool
 | .one x=>x.ok2
 | .ag l=>l.all It.ok2
def TV.ok2:TV→Bool
 | .cv c=>c.ok2
 | .tu l=>l.all CT.ok2
variable {N1:Nat→Prop}{g:Gh}{i:Item}
theorem It.fz_sem (hN : ∀ b,N b→N1 b)(hs : ∀ l,(It.sl 2).sem N w g l→i.T N1 w l){x:It}{l:List Value}(hx:x.ok2=true)(h:x.sem N w g l):(x.fz i).sem N1 w G0 l:=by
 cases x with
 | b x=>exact It0.step h (WStep.refl _ _) hN
 | ptr k off=>cases hx
 | clo f p=>cases hx
 | fp x=>obtain ⟨b,off,h1,h2⟩:=h;exact ⟨b,off,h1,h2.step (WStep.refl _ _) hN⟩
 | sl k =>
  have:=Nat.eq_of_beq_eq_true hx;subst this;exact hs l h
theorem Us (hN : ∀ b,N b→N1 b)(hs : ∀ l,(It.sl 2).sem N w g l→i.T N1 w l) : ∀ {xs:List It} {l:List Value},xs.all It.ok2=true→Bl N w g xs l→Bl N1 w G0 (xs.map (It.fz i)) l
 | [],_,_,h=>h
 | x::xs,_,hn,⟨l1,l2,e,h1,h2⟩=>by
  simp only[List.all_cons,Bool.and_eq_true] at hn;exact ⟨l1,l2,e,It.fz_sem hN hs hn.1 h1,Us hN hs hn.2 h2⟩
theorem CT.fz_sem (hN : ∀ b,N b→N1 b)(hs : ∀ l,(It.sl 2).sem N w g l→i.T N1 w l){c:CT}{v:Value}(hc:c.ok2=true)(h:c.sem N w g v):(c.fz i).sem N1 w G0 v:=by
 cases c with
 | one x=>exact It.fz_sem hN hs hc h
 | ag l=>obtain ⟨vs,e,h1⟩:=h;exact ⟨vs,e,Us hN hs hc h1⟩
theorem Vp (hN : ∀ b,N b→N1 b)(hs : ∀ l,(It.sl 2).sem N w g l→i.T N1 w l) : ∀ {cs:List CT} {vs:List Value},cs.all CT.ok2=true→all2 (CT.sem N w g) cs vs→all2 (CT.sem N1 w G0) (cs.map (CT.fz i)) vs
 | [],_,_,h=>h
 | c::cs,_,hn,⟨v,l,e,h1,h2⟩=>by
  simp only[List.all_cons,Bool.and_eq_true] at hn;exact ⟨v,l,e,CT.fz_sem hN hs hn.1 h1,Vp hN hs hn.2 h2⟩
theorem TV.fz_sem (hN : ∀ b,N b→N1 b)(hs : ∀ l,(It.sl 2).sem N w g l→i.T N1 w l){c:TV}{v:Value}(hc:c.ok2=true)(h:c.sem N w g v):(c.fz i).sem N1 w G0 v:=by
 cases c with
 | cv x=>exact CT.fz_sem hN hs hc h
 | tu l=>obtain ⟨vs,e,h1⟩:=h;exact ⟨vs,e,Vp hN hs hc h1⟩
theorem Wt {K:Nat→Prop}{k T sz n:Nat}{rows:List (List It0)}(hbox:BoxSem N w g K k ⟨T,some (sz,n),Aa rows⟩)(hn:n=rows.length)(hw : ∀ r∈rows,Cn r=sz){l:List Value}(h:(It.sl k).sem N w g l):(slI sz rows).T (fun b=>N b∨AJ g k=some b) w l:=R4 hbox hn hw h
theorem SpM.freeze {f:FuncId}{args:List CT}{res:TV}{T sz n:Nat}{rows:List (List It0)}(h:SpM P I f [] args [(2,some ⟨T,some (sz,n),Aa rows⟩)] res)(hn:n=rows.length)(hw : ∀ r∈rows,Cn r=sz)(hok:res.ok2=true):Sp P I f args (res.fz (slI sz rows)):=by
 intro N w vs hI hlow hargs;refine (h N (fun b=>b < w.heap.size) w G0 vs hI hlow (fun b hb=>hb) (fun k e he=>by cases he) (fun k j e e' b he=>by cases he) (fun k _=>rfl) hargs).mono ?_
 rintro en w' ⟨v,N',g',rfl,q1,q2,q3,q4,q5,q6,q7⟩;have hbox:=q4 2 _ rfl;refine ⟨v,rfl,?_,Mr q3⟩;have hx:=TV.fz_sem (N:=N') (N1:=fun b=>N' b∨AJ g' 2=some b) (i:=slI sz rows) (fun b hb => .inl hb) (fun l hl=>Wt hbox hn hw hl) hok q7
 refine TV.step hx (WStep.refl _ _) ?_ (GExt.refl _);rintro b (hb | hb)
 ·rcases q2 b hb with hb | ⟨hb1,hb2⟩
  ·exact .inl hb
  ·exact .inr ⟨Nat.not_lt.1 hb1,hb2⟩
 ·obtain ⟨cs,m,h1,_,_,h4,h5,_⟩:=hbox.at hb
  exact .inr ⟨Nat.not_lt.1 h5,(Array.getElem?_eq_some_iff.1 h1).1⟩
end
section
variable {P:Program}{I:WInv}
theorem Re {N:Nat→Prop}{w:World}{b sz:Nat}{cs:Array Value}{T:TypeId}{fr:Nat×Nat}(hb:w.heap[b]? = some (.cells cs T fr)) : ∀ (rows:List (List It0)) (off:Nat),(∀ r∈rows,Cn r=sz)→(∀ i r,rows[i]? = some r→RowAt N w b (off+i*sz) r) → ∃ vs:List Value,vs.length=rows.length*sz∧D2 N w rows.flatten vs∧(cs.toList.drop off).take vs.length=vs
 | [],off,_,_=>⟨[],by simp,rfl,by simp⟩
 | r::rows,off,hw,h=>by
  obtain ⟨cs',T',fr',us,_,h2,h3,h4⟩:=h 0 r rfl;rw[hb] at h2;injection h2 with h2;injection h2 with e1 e2 e3;subst e1;rw[Nat.zero_mul,Nat.add_zero] at h3;have hl:=Hs h4;rw[hw r (by simp)] at hl
  obtain ⟨vs,k1,k2,k3⟩:=Re hb rows (off+sz) (fun q hq=>hw q (by simp[hq])) fun i q hi=>by
   have:=h (i+1) q (by simpa using hi)
   rw[Nat.add_mul,Nat.one_mul] at this;rw[show off+sz+i*sz=off+(i*sz+sz) by omega];exact this
  refine ⟨us++vs,by rw[List.length_append,hl,k1,List.length_cons,Nat.add_mul];omega,?_,?_⟩
  ·have app : ∀ {xs ys:List It0} {l1 l2:List Value},D2 N w xs l1→D2 N w ys l2→D2 N w (xs++ys) (l1++l2):=by
    intro xs;induction xs with
    | nil=>intro ys l1 l2 a b;rw[show l1=[] from a];exact b
    | cons x xs ih=>rintro ys l1 l2 ⟨p,q,e,a1,a2⟩ b;exact ⟨p,q++l2,by rw[e,List.append_assoc],a1,ih a2 b⟩
   exact app h4 k2
  ·rw[List.length_append,List.take_add,h3,List.drop_drop,hl,k3]
theorem Cr {sz:Nat}{rows:List (List It0)}(hw : ∀ r∈rows,Cn r=sz)(hok:(rows.flatten.map It.b).all It.okB=true):Vr sz (slI sz rows) rows.length rows.flatten:=by
 rintro N w l ⟨A,c,e,h1,h2,h3⟩;by_cases hne:rows=[]
 ·subst hne
  cases A with
  | none=>exact ⟨none,c,e,.inl ⟨rfl,rfl,rfl⟩⟩
  | some a=>exact ⟨some a,c,e,.inr ⟨a,[],rfl,by simp,rfl,by simp,by simp⟩⟩
 obtain ⟨b,off,rfl,hr⟩:=h3 hne;obtain ⟨r0,rs,hrows⟩:=List.exists_cons_of_ne_nil hne;obtain ⟨cs,T,fr,_,_,hb,_,_⟩:=hr 0 r0 (by rw[hrows];rfl)
 obtain ⟨vs,k1,k2,k3⟩:=Re hb rows off hw hr;refine ⟨_,c,e,.inr ⟨_,vs,rfl,k1,k2,DT (g:=G0) (Dw k2) hok,?_⟩⟩;intro j u hj;rw[Du];have hj':=hj;rw[←k3,List.getElem?_take] at hj;split at hj
 ·rw[List.getElem?_drop] at hj
  simp only[World.cell?,hb];simpa using hj
 ·cases hj
theorem Qt (w:World)(d:Nat){t e:TypeId}{a:Addr}{n c:Nat}(ht:P.underlying t=some (.slice e)):(Op.equalIn (d+1) t (.slice (some a) n c) (.slice none 0 0)).run P w = .ok false w:=by
 simp[Op.equalIn,AE ht]
end
theorem PL {c:Bool}{L:List Nd}:okR 9 (L.map (Ag c)):=by
 intro r hr;obtain ⟨x,_,rfl⟩:=List.mem_map.1 hr;refine ⟨rfl,fun y hy => ?_⟩
 simp at hy;rcases hy with rfl | rfl | rfl | rfl | rfl | rfl <;> first | exact Nat.one_pos | exact (by decide:0 < 4)
theorem Ge {c:Bool}{L:List Nd} : ∀ r∈L.map (Ag c),Cn r=9:=fun r hr=>(PL r hr).1
theorem BL {c:Bool}{L:List Nd}{i fo n:Nat}{m:List It}(h:i < L.length)(hs:G3 ((Ag c (tat L i)).map It.b) fo n=some m):G3 (Aa (L.map (Ag c))) (i*9+fo) n=some m:=LY (AR h) PL hs
theorem Jt {c:Bool}{L:List Nd}{i fo:Nat}{new:List It}(h:i < L.length)(y:Nd)(hu:EH ((Ag c (tat L i)).map It.b) fo new=some ((Ag c y).map It.b)):EH (Aa (L.map (Ag c))) (i*9+fo) new=some (Aa ((L.set i y).map (Ag c))):=by
 have:=Pv (sz:=9) (AR (f:=Ag c) h) PL hu;rw[←List.map_set] at this;exact this
structure Ch where
 kind:Int
 node:Int
 q:Rat
 fst:Int
 nxt:Int
 cost:Int
abbrev chT (c:Bool)(x:Ch):CT := .ag [.i x.kind,.i x.node,.b (.it (fF c 12 x.q)),.i x.fst,.i x.nxt,.i x.cost]
abbrev tbx (f:Bool)(z:Int)(k:Nat):Ent:=⟨46,none,[.sl k,.o f,.i z]⟩
abbrev nbx (c:Bool)(L:List Nd)(n:Nat):Ent:=⟨103,some (9,n),Aa (L.map (Ag c))⟩
section
variable {I:WInv}{c c':Bool}{p:Rat}
theorem Qp:Sp Tryz.prog I 84 [fc c' 12 p] (tfc c 12 p):=(Sa (c:=c')).rs (US (fun _=>rfl) (Nat.le_refl _) rfl).tv
end
theorem P8 {L:List Nd}{i j:Nat}{y:Nd}(h:i < L.length):tat (L.set i y) j=if i=j then y else tat L j:=by
 unfold tat;rw[List.getD_eq_getElem?_getD,List.getD_eq_getElem?_getD,List.getElem?_set];by_cases hij:i=j
 ·subst hij;rw[if_pos rfl,if_pos rfl,if_pos h];rfl
 ·rw[if_neg hij,if_neg hij]
theorem QR {L M:List Nd}{i:Nat}(h:i < L.length):tat (L++M) i=tat L i:=by
 unfold tat;rw[List.getD_eq_getElem?_getD,List.getD_eq_getElem?_getD,List.getElem?_append_left h]
def raE (L:List Nd)(x:Ch):Int:=if x.node < 0∨(L.length:Int)≤x.node then 5 else if okc x.q=false then 5 else if (tat L x.node.toNat).st≠0 then 16 else 0
def raL (L:List Nd)(x:Ch):List Nd:=if (tat L x.node.toNat).q < x.q then L.set x.node.toNat ⟨(tat L x.node.toNat).par,(tat L x.node.toNat).fst,(tat L x.node.toNat).nxt,(tat L x.node.toNat).tog,x.q,(tat L x.node.toNat).st⟩ else L
def fiE (x:Ch):Int:=if BN x.cost then 0 else 5
def spE (L:List Nd)(x:Ch):Int:=if x.node < 0∨(L.length:Int)≤x.node∨x.fst < 0∨x.nxt < 0∨x.fst=x.nxt then 5 else if (tat L x.node.toNat).st≠0 then 16 else if 2000 < L.length+2∨32≤(Be L x.node.toNat).length then 10 else if Fb L x.node.toNat x.fst x.nxt then 20 else 0
def kid (L:List Nd)(x:Ch)(b:Bool):Nd:=⟨x.node,x.fst,x.nxt,b,(tat L x.node.toNat).q,0⟩
def Bo (L:List Nd)(i:Nat):List Nd:=L.set i ⟨(tat L i).par,(tat L i).fst,(tat L i).nxt,(tat L i).tog,(tat L i).q,1⟩
def spL (L:List Nd)(x:Ch):List Nd:=Bo L x.node.toNat++[kid L x true,kid L x false]
theorem S5 {a b:Rat}(h:b < a):decide (Fe a b > 0)=true:=by
 unfold Fe;rw[if_neg (by grind),if_neg (by grind)];rfl
theorem S6 {a b:Rat}(h : ¬ b < a):decide (Fe a b > 0)=false:=by
 unfold Fe;by_cases h1:a < b
 ·rw[if_pos h1];rfl
 ·rw[if_neg h1,if_pos (by grind)];rfl
section
variable {I:WInv}{c c':Bool}
theorem Wg (L : List Nd) (f : Bool) (z : Int) (n : Nat) (hn : L.length = n) (x : Ch) (h : raE L x ≠ 0) : SpM Tryz.prog I 122 [(0, some (tbx f z 1)), (1, some (nbx c L n))] [.one (.ptr 0 0), chT c' x] [(0, some (tbx f z 1)), (1, some (nbx c L n))] (li (raE L x)) := by
 unfold raE at h ⊢;by_cases h1:x.node < 0
 ·rw[if_pos (.inl h1)]
  exact sm 55 [pk (Al 3 x.node 0)]
 ·by_cases h2:(L.length:Int)≤x.node
  ·rw[if_pos (.inr h2)]
   exact sm 55 [pk (Ai 3 x.node 0),pk (Bx 3 x.node (n:Nat))]
  ·rw[if_neg (by omega)] at h ⊢
   have hce:=D1 (I:=I) (c:=c') (p:=x.q);cases h3:okc x.q with
   | false =>
    rw[Lm h3] at hce;rw[if_pos rfl];exact sm 55 [pk (Ai 3 x.node 0),pk (By 3 x.node (n:Nat)),po (hce),pa]
   | true =>
    rw[Gx h3] at hce;rw[h3,if_neg (by decide)] at h
    rw[if_neg (by decide)]
    obtain ⟨i,hni⟩ : ∃ i:Nat,x.node=(i:Int):=⟨x.node.toNat,by omega⟩
    have hi:i < L.length:=by omega
    have ht:x.node.toNat=i:=by omega
    rw[ht] at h ⊢;by_cases h4:(tat L i).st=0
    ·rw[if_neg (by simp[h4])] at h;exact absurd rfl h
    ·rw[if_pos h4]
     exact sm 55 [pk (Ai 3 x.node 0),pk (By 3 x.node (n:Nat)),po (hce),pa,⟨.ix x.node i n,⟨by omega,by omega⟩⟩,⟨.part (Aa ((L).map (Ag c))) (i*9+8) 1 [.i ((tat L i).st)],(BL (c:=c) (fo:=8) (n:=1) hi rfl)⟩,pk (D7 3 ((tat L i).st) 0 true (decide_eq_false h4))]
theorem YF (L : List Nd) (f : Bool) (z : Int) (n : Nat) (hn : L.length = n) (x : Ch) (h : raE L x = 0) : SpM Tryz.prog I 122 [(0, some (tbx f z 1)), (1, some (nbx c L n))] [.one (.ptr 0 0), chT c' x] [(0, some (tbx f z 1)), (1, some (nbx c (raL L x) n))] (li 0) := by
 unfold raE at h;unfold raL;by_cases h1:x.node < 0∨(L.length:Int)≤x.node
 ·rw[if_pos h1] at h;omega
 ·rw[if_neg h1] at h
  cases h3:okc x.q with
  | false=>rw[h3,if_pos rfl] at h;omega
  | true =>
   rw[h3,if_neg (by decide)] at h
   have hce:=D1 (I:=I) (c:=c') (p:=x.q);rw[Gx h3] at hce;obtain ⟨i,hni⟩ : ∃ i:Nat,x.node=(i:Int):=⟨x.node.toNat,by omega⟩
   have hi:i < L.length:=by omega
   have ht:x.node.toNat=i:=by omega
   rw[ht] at h ⊢;by_cases h4:(tat L i).st=0
   ·by_cases h5:(tat L i).q < x.q
    ·rw[if_pos h5]
     exact sm 55 [pk (Ai 3 x.node 0),pk (By 3 x.node (n:Nat)),po (hce),pa,⟨.ix x.node i n,⟨by omega,by omega⟩⟩,⟨.part (Aa ((L).map (Ag c))) (i*9+8) 1 [.i ((tat L i).st)],(BL (c:=c) (fo:=8) (n:=1) hi rfl)⟩,pk (D7 3 ((tat L i).st) 0 false (decide_eq_true h4)),⟨.part ([.i x.kind,.i x.node,.b (.it (fF c' 12 x.q)),.i x.fst,.i x.nxt,.i x.cost]) 2 4 [.b (.it (fF c' 12 x.q))],rfl⟩,⟨.part (Aa ((L).map (Ag c))) (i*9+4) 4 [.b (.it (fF c 12 (tat L i).q))],(BL (c:=c) (fo:=4) (n:=4) hi rfl)⟩,po (AeL (I:=I) (c:=c') (c':=c) (k:=12) (j:=12) (p:=x.q) (q:=(tat L i).q) (r:=Fe x.q ((tat L i).q)) rfl (by omega)),pk (Hi 3 (Fe x.q ((tat L i).q)) 0 true (S5 h5)),po (Qp (I:=I) (c:=c) (c':=c') (p:=x.q)),⟨.upd (Aa ((L).map (Ag c))) (i*9+4) [.b (.it (fF c 12 x.q))] (Aa (((L).set i ⟨(tat L i).par,(tat L i).fst,(tat L i).nxt,(tat L i).tog,x.q,(tat L i).st⟩).map (Ag c))),(Jt (c:=c) (fo:=4) hi ⟨(tat L i).par,(tat L i).fst,(tat L i).nxt,(tat L i).tog,x.q,(tat L i).st⟩ rfl)⟩]
    ·rw[if_neg h5]
     exact sm 55 [pk (Ai 3 x.node 0),pk (By 3 x.node (n:Nat)),po (hce),pa,⟨.ix x.node i n,⟨by omega,by omega⟩⟩,⟨.part (Aa ((L).map (Ag c))) (i*9+8) 1 [.i ((tat L i).st)],(BL (c:=c) (fo:=8) (n:=1) hi rfl)⟩,pk (D7 3 ((tat L i).st) 0 false (decide_eq_true h4)),⟨.part ([.i x.kind,.i x.node,.b (.it (fF c' 12 x.q)),.i x.fst,.i x.nxt,.i x.cost]) 2 4 [.b (.it (fF c' 12 x.q))],rfl⟩,⟨.part (Aa ((L).map (Ag c))) (i*9+4) 4 [.b (.it (fF c 12 (tat L i).q))],(BL (c:=c) (fo:=4) (n:=4) hi rfl)⟩,po (AeL (I:=I) (c:=c') (c':=c) (k:=12) (j:=12) (p:=x.q) (q:=(tat L i).q) (r:=Fe x.q ((tat L i).q)) rfl (by omega)),pk (Hi 3 (Fe x.q ((tat L i).q)) 0 false (S6 h5))]
   ·rw[if_pos h4] at h;omega
def fnF (f:Bool)(z:Int)(x:Ch):Bool×Int:=if f=false∨x.cost < z then (true,x.cost) else (f,z)
theorem Zx (f:Bool)(z:Int)(k:Ent)(x:Ch)(h:fiE x≠0):SpM Tryz.prog I 124 [(0,some (tbx f z 1)),(1,some k)] [.one (.ptr 0 0),chT c' x] [(0,some (tbx f z 1)),(1,some k)] (li (fiE x)):=by
 unfold fiE at h ⊢;have hc:=Qx (I:=I) x.cost;cases h1:BN x.cost with
 | true=>rw[h1] at h;exact absurd rfl h
 | false =>
  rw[h1] at hc;exact sm 31 [po (hc),pa]
theorem AbC (f:Bool)(z:Int)(k:Ent)(x:Ch)(h:fiE x=0):SpM Tryz.prog I 124 [(0,some (tbx f z 1)),(1,some k)] [.one (.ptr 0 0),chT c' x] [(0,some (tbx (fnF f z x).1 (fnF f z x).2 1)),(1,some k)] (li 0):=by
 have h1:BN x.cost=true:=by
  unfold fiE at h;cases h1:BN x.cost with
  | true=>rfl
  | false=>rw[h1] at h;exact absurd h (by decide)
 have hc:=Qx (I:=I) x.cost;rw[h1] at hc;unfold fnF;cases f with
 | false =>
  rw[if_pos (.inl rfl)];exact sm 31 [po (hc),pa,pa]
 | true =>
  by_cases h2:x.cost < z
  ·rw[if_pos (.inr h2)]
   exact sm 31 [po (hc),pa,pa,pk (Al 3 x.cost z)]
  ·rw[if_neg (by simp[h2])]
   exact sm 31 [po (hc),pa,pa,pk (Ai 3 x.cost z)]
theorem LJ {L:List Nd}(f:Bool)(z:Int)(n:Nat)(hn:L.length=n)(i:Nat)(hD:Dn L (L.length - 1))(hi:i < L.length)(hl:L.length≤1000000):SpM Tryz.prog I 162 [(0,some (nbx c L n))] [.ag [.sl 0,.o f,.i z],ci (i:Int)] [(0,some (nbx c L n))] (tit (lnI (Be L i).length)) :=
 Lo (args:=[.ag [.sl 0,.o f,.i z],ci (i:Int)]) (Abf L f z i (fun j h0 hj=>hD j h0 (by omega)) hi hl) (by rw[List.length_map];exact hn.symm) Ge rfl (AaM (by rw[List.length_map])) rfl
theorem Hf {L:List Nd}(f:Bool)(z:Int)(n:Nat)(hn:L.length=n)(i:Nat)(x y:Int)(hD:Dn L (L.length - 1))(hi:i < L.length):SpM Tryz.prog I 160 [(0,some (nbx c L n))] [.ag [.sl 0,.o f,.i z],ci (i:Int),ci x,ci y] [(0,some (nbx c L n))] (lb (Fb L i x y)) :=
 Lo (args:=[.ag [.sl 0,.o f,.i z],ci (i:Int),ci x,ci y]) (TJ L f z i x y (fun j h0 hj=>hD j h0 (by omega)) hi) (by rw[List.length_map];exact hn.symm) Ge rfl GT rfl
theorem VG (L : List Nd) (f : Bool) (z : Int) (n : Nat) (hn : L.length = n) (hl : n ≤ 2000) (hD : Dn L (L.length - 1)) (x : Ch) (h : spE L x ≠ 0) : SpM Tryz.prog I 123 [(0, some (tbx f z 1)), (1, some (nbx c L n))] [.one (.ptr 0 0), chT c' x] [(0, some (tbx f z 1)), (1, some (nbx c L n))] (li (spE L x)) := by
 unfold spE at h ⊢;by_cases h1:x.node < 0
 ·rw[if_pos (.inl h1)]
  exact sm 121 [pk (Al 3 x.node 0)]
 ·by_cases h2 : (L.length : Int) ≤ x.node
  ·rw[if_pos (.inr (.inl h2))]
   exact sm 121 [pk (Ai 3 x.node 0),pk (Bx 3 x.node (n:Nat))]
  ·by_cases h3 : x.fst < 0
   ·rw[if_pos (.inr (.inr (.inl h3)))]
    exact sm 121 [pk (Ai 3 x.node 0),pk (By 3 x.node (n:Nat)),pk (Al 3 x.fst 0)]
   ·by_cases h4 : x.nxt < 0
    ·rw[if_pos (.inr (.inr (.inr (.inl h4))))]
     exact sm 121 [pk (Ai 3 x.node 0),pk (By 3 x.node (n:Nat)),pk (Ai 3 x.fst 0),pk (Al 3 x.nxt 0)]
    ·by_cases h5 : x.fst = x.nxt
     ·rw[if_pos (.inr (.inr (.inr (.inr h5))))]
      exact sm 121 [pk (Ai 3 x.node 0),pk (By 3 x.node (n:Nat)),pk (Ai 3 x.fst 0),pk (Ai 3 x.nxt 0),pk (Am 3 x.fst x.nxt)]
     ·rw [if_neg (by omega)] at h ⊢
      obtain ⟨i,hni⟩ : ∃ i:Nat,x.node=(i:Int):=⟨x.node.toNat,by omega⟩
      have hi:i < L.length:=by omega
      have ht:x.node.toNat=i:=by omega
      rw[ht] at h ⊢;by_cases h6:(tat L i).st=0
      ·rw[if_neg (by simp[h6])] at h ⊢
       have hpa:=LJ (I:=I) (c:=c) f z n hn i hD hi (by omega)
       have hde:=Hf (I:=I) (c:=c) f z n hn i x.fst x.nxt hD hi;rw[←hni] at hpa hde;generalize (Be L i).length=k at *;by_cases h7:2000 < L.length+2
       ·rw[if_pos (.inl h7)]
        exact sm 121 [pk (Ai 3 x.node 0),pk (By 3 x.node (n:Nat)),pk (Ai 3 x.fst 0),pk (Ai 3 x.nxt 0),pk (Af 3 x.fst x.nxt),⟨.ix x.node i n,⟨by omega,by omega⟩⟩,⟨.part (Aa ((L).map (Ag c))) (i*9+8) 1 [.i ((tat L i).st)],(BL (c:=c) (fo:=8) (n:=1) hi rfl)⟩,pk (D7 3 ((tat L i).st) 0 false (decide_eq_true h6)),pk (AA 3 (n:Nat) 2 ⟨by omega,by omega⟩),pk (Cc 3 ((n:Nat)+2) 2000)]
       ·by_cases h8:32≤k
        ·rw[if_pos (.inr h8)]
         exact sm 121 [pk (Ai 3 x.node 0),pk (By 3 x.node (n:Nat)),pk (Ai 3 x.fst 0),pk (Ai 3 x.nxt 0),pk (Af 3 x.fst x.nxt),⟨.ix x.node i n,⟨by omega,by omega⟩⟩,⟨.part (Aa ((L).map (Ag c))) (i*9+8) 1 [.i ((tat L i).st)],(BL (c:=c) (fo:=8) (n:=1) hi rfl)⟩,pk (D7 3 ((tat L i).st) 0 false (decide_eq_true h6)),pk (AA 3 (n:Nat) 2 ⟨by omega,by omega⟩),pk (Aq 3 ((n:Nat)+2) 2000),pom [1] (hpa),pk (Tv 110 101 3 k (by kernel_rfl)),pk (Bx 3 (k:Int) 32)]
        ·rw[if_neg (by omega)] at h ⊢
         cases h9:Fb L i x.fst x.nxt with
         | false=>rw[h9] at h;exact absurd rfl h
         | true =>
          rw[h9] at hde;exact sm 121 [pk (Ai 3 x.node 0),pk (By 3 x.node (n:Nat)),pk (Ai 3 x.fst 0),pk (Ai 3 x.nxt 0),pk (Af 3 x.fst x.nxt),⟨.ix x.node i n,⟨by omega,by omega⟩⟩,⟨.part (Aa ((L).map (Ag c))) (i*9+8) 1 [.i ((tat L i).st)],(BL (c:=c) (fo:=8) (n:=1) hi rfl)⟩,pk (D7 3 ((tat L i).st) 0 false (decide_eq_true h6)),pk (AA 3 (n:Nat) 2 ⟨by omega,by omega⟩),pk (Aq 3 ((n:Nat)+2) 2000),pom [1] (hpa),pk (Tv 110 101 3 k (by kernel_rfl)),pk (By 3 (k:Int) 32),pom [1] (hde)]
      ·rw[if_pos h6]
       exact sm 121 [pk (Ai 3 x.node 0),pk (By 3 x.node (n:Nat)),pk (Ai 3 x.fst 0),pk (Ai 3 x.nxt 0),pk (Af 3 x.fst x.nxt),⟨.ix x.node i n,⟨by omega,by omega⟩⟩,⟨.part (Aa ((L).map (Ag c))) (i*9+8) 1 [.i ((tat L i).st)],(BL (c:=c) (fo:=8) (n:=1) hi rfl)⟩,pk (D7 3 ((tat L i).st) 0 true (decide_eq_false h6))]
theorem PG (M:List Nd)(f:Bool)(z:Int)(n:Nat)(hn:M.length=n)(hl:n≤2000)(x:Ch)(i:Nat)(hni:x.node=(i:Int))(hi:i < M.length):Rnd Tryz.prog I 121 (AQ Tryz.prog 123 0) ⟨[(0,.p 0 0),(3,.p 3 0),(86,.s 85),(87,.i 2),(88,.i 0)],[(1,some ⟨103,some (9,n),Aa ((M).map (Ag c))⟩),(0,some ⟨46,none,[.sl 1,.o f,.i z]⟩),(3,some ⟨28,none,[.i x.kind,.i x.node,.b (.it (fF c' 12 x.q)),.i x.fst,.i x.nxt,.i x.cost]⟩),(85,some ⟨4,some (1,2),[.o true,.o false]⟩)],100⟩ .normal ⟨[(0,.p 0 0),(3,.p 3 0),(86,.s 85),(87,.i 2),(88,.i 1)],[(90,some ⟨103,some (9,n+1),Aa ((M++[(⟨x.node,x.fst,x.nxt,true,(tat M i).q,0⟩:Nd)]).map (Ag c))⟩),(0,some ⟨46,none,[.sl 90,.o f,.i z]⟩),(3,some ⟨28,none,[.i x.kind,.i x.node,.b (.it (fF c' 12 x.q)),.i x.fst,.i x.nxt,.i x.cost]⟩),(85,some ⟨4,some (1,2),[.o true,.o false]⟩)],100⟩ :=
 Rnd.nam [(90,129)] (show Rnd _ _ _ _ _ _ ⟨[(0,.p 0 0),(3,.p 3 0),(86,.s 85),(87,.i 2),(88,.i 1)],[(129,some ⟨103,some (9,n+1),(Aa ((M).map (Ag c)))++([.i x.node,.i x.fst,.i x.nxt,.o true,.b (.it (fF c 12 ((tat M i).q))),.i 0])⟩),(0,some ⟨46,none,[.sl 129,.o f,.i z]⟩),(3,some ⟨28,none,[.i x.kind,.i x.node,.b (.it (fF c' 12 x.q)),.i x.fst,.i x.nxt,.i x.cost]⟩),(85,some ⟨4,some (1,2),[.o true,.o false]⟩)],135⟩ from rr [pa,⟨.ix 0 0 2,⟨rfl,by omega⟩⟩,⟨.ix x.node i n,⟨by omega,by omega⟩⟩,⟨.part (Aa ((M).map (Ag c))) (i*9+4) 4 [.b (.it (fF c 12 (tat M i).q))],(BL (c:=c) (fo:=4) (n:=4) hi rfl)⟩,po (Qp (I:=I) (c:=c) (c':=c) (p:=(tat M i).q)),⟨.ap n 1 104,⟨by omega,by simp[maxLen];omega⟩⟩,pa]) (t:=⟨[(0,.p 0 0),(3,.p 3 0),(86,.s 85),(87,.i 2),(88,.i 1)],[(90,some ⟨103,some (9,n+1),Aa ((M++[(⟨x.node,x.fst,x.nxt,true,(tat M i).q,0⟩:Nd)]).map (Ag c))⟩),(0,some ⟨46,none,[.sl 90,.o f,.i z]⟩),(3,some ⟨28,none,[.i x.kind,.i x.node,.b (.it (fF c' 12 x.q)),.i x.fst,.i x.nxt,.i x.cost]⟩),(85,some ⟨4,some (1,2),[.o true,.o false]⟩)],100⟩) ⟨rfl,TVle.refl,rfl,TVle.refl,rfl,TVle.refl,rfl,TVle.refl,rfl,TVle.refl,trivial⟩ ⟨rfl,rfl,rfl,ILe.eq (show (Aa ((M).map (Ag c)))++([.i x.node,.i x.fst,.i x.nxt,.o true,.b (.it (fF c 12 ((tat M i).q))),.i 0])=Aa ((M++[(⟨x.node,x.fst,x.nxt,true,(tat M i).q,0⟩:Nd)]).map (Ag c)) from by simp[Aa]),rfl,rfl,rfl,ILe.refl,rfl,rfl,rfl,ILe.refl,rfl,rfl,rfl,ILe.refl,trivial⟩
theorem PF (M:List Nd)(f:Bool)(z:Int)(n:Nat)(hn:M.length=n)(hl:n≤2001)(x:Ch)(i:Nat)(hni:x.node=(i:Int))(hi:i < M.length):Rnd Tryz.prog I 121 (AQ Tryz.prog 123 0) ⟨[(0,.p 0 0),(3,.p 3 0),(86,.s 85),(87,.i 2),(88,.i 1)],[(90,some ⟨103,some (9,n),Aa ((M).map (Ag c))⟩),(0,some ⟨46,none,[.sl 90,.o f,.i z]⟩),(3,some ⟨28,none,[.i x.kind,.i x.node,.b (.it (fF c' 12 x.q)),.i x.fst,.i x.nxt,.i x.cost]⟩),(85,some ⟨4,some (1,2),[.o true,.o false]⟩)],100⟩ .normal ⟨[(0,.p 0 0),(3,.p 3 0),(86,.s 85),(87,.i 2),(88,.i 2)],[(90,some ⟨103,some (9,n+1),Aa ((M++[(⟨x.node,x.fst,x.nxt,false,(tat M i).q,0⟩:Nd)]).map (Ag c))⟩),(0,some ⟨46,none,[.sl 90,.o f,.i z]⟩),(3,some ⟨28,none,[.i x.kind,.i x.node,.b (.it (fF c' 12 x.q)),.i x.fst,.i x.nxt,.i x.cost]⟩),(85,some ⟨4,some (1,2),[.o true,.o false]⟩)],100⟩ :=
 Rnd.nam [(90,129)] (show Rnd _ _ _ _ _ _ ⟨[(0,.p 0 0),(3,.p 3 0),(86,.s 85),(87,.i 2),(88,.i 2)],[(129,some ⟨103,some (9,n+1),(Aa ((M).map (Ag c)))++([.i x.node,.i x.fst,.i x.nxt,.o false,.b (.it (fF c 12 ((tat M i).q))),.i 0])⟩),(0,some ⟨46,none,[.sl 129,.o f,.i z]⟩),(3,some ⟨28,none,[.i x.kind,.i x.node,.b (.it (fF c' 12 x.q)),.i x.fst,.i x.nxt,.i x.cost]⟩),(85,some ⟨4,some (1,2),[.o true,.o false]⟩)],135⟩ from rr [pa,⟨.ix 1 1 2,⟨rfl,by omega⟩⟩,⟨.ix x.node i n,⟨by omega,by omega⟩⟩,⟨.part (Aa ((M).map (Ag c))) (i*9+4) 4 [.b (.it (fF c 12 (tat M i).q))],(BL (c:=c) (fo:=4) (n:=4) hi rfl)⟩,po (Qp (I:=I) (c:=c) (c':=c) (p:=(tat M i).q)),⟨.ap n 1 104,⟨by omega,by simp[maxLen];omega⟩⟩,pa]) (t:=⟨[(0,.p 0 0),(3,.p 3 0),(86,.s 85),(87,.i 2),(88,.i 2)],[(90,some ⟨103,some (9,n+1),Aa ((M++[(⟨x.node,x.fst,x.nxt,false,(tat M i).q,0⟩:Nd)]).map (Ag c))⟩),(0,some ⟨46,none,[.sl 90,.o f,.i z]⟩),(3,some ⟨28,none,[.i x.kind,.i x.node,.b (.it (fF c' 12 x.q)),.i x.fst,.i x.nxt,.i x.cost]⟩),(85,some ⟨4,some (1,2),[.o true,.o false]⟩)],100⟩) ⟨rfl,TVle.refl,rfl,TVle.refl,rfl,TVle.refl,rfl,TVle.refl,rfl,TVle.refl,trivial⟩ ⟨rfl,rfl,rfl,ILe.eq (show (Aa ((M).map (Ag c)))++([.i x.node,.i x.fst,.i x.nxt,.o false,.b (.it (fF c 12 ((tat M i).q))),.i 0])=Aa ((M++[(⟨x.node,x.fst,x.nxt,false,(tat M i).q,0⟩:Nd)]).map (Ag c)) from by simp[Aa]),rfl,rfl,rfl,ILe.refl,rfl,rfl,rfl,ILe.refl,rfl,rfl,rfl,ILe.refl,trivial⟩
end
section
variable {I:WInv}{c c':Bool}
def Aev (c c':Bool)(L:List Nd)(f:Bool)(z:Int)(n:Nat)(x:Ch)(i:Nat):Nat→Go.Proofs.YtdgbealknnmkoaaGreatDoor.St
 | 0=>⟨[(0,.p 0 0),(3,.p 3 0),(86,.s 85),(87,.i 2),(88,.i 0)],[(1,some ⟨103,some (9,n),Aa (((Bo L i)).map (Ag c))⟩),(0,some ⟨46,none,[.sl 1,.o f,.i z]⟩),(3,some ⟨28,none,[.i x.kind,.i x.node,.b (.it (fF c' 12 x.q)),.i x.fst,.i x.nxt,.i x.cost]⟩),(85,some ⟨4,some (1,2),[.o true,.o false]⟩)],100⟩
 | 1=>⟨[(0,.p 0 0),(3,.p 3 0),(86,.s 85),(87,.i 2),(88,.i 1)],[(90,some ⟨103,some (9,n+1),Aa ((((Bo L i)++[(⟨x.node,x.fst,x.nxt,true,(tat (Bo L i) i).q,0⟩:Nd)])).map (Ag c))⟩),(0,some ⟨46,none,[.sl 90,.o f,.i z]⟩),(3,some ⟨28,none,[.i x.kind,.i x.node,.b (.it (fF c' 12 x.q)),.i x.fst,.i x.nxt,.i x.cost]⟩),(85,some ⟨4,some (1,2),[.o true,.o false]⟩)],100⟩
 | _=>⟨[(0,.p 0 0),(3,.p 3 0),(86,.s 85),(87,.i 2),(88,.i 2)],[(90,some ⟨103,some (9,n+1+1),Aa (((((Bo L i)++[(⟨x.node,x.fst,x.nxt,true,(tat (Bo L i) i).q,0⟩:Nd)])++[(⟨x.node,x.fst,x.nxt,false,(tat ((Bo L i)++[(⟨x.node,x.fst,x.nxt,true,(tat (Bo L i) i).q,0⟩:Nd)]) i).q,0⟩:Nd)])).map (Ag c))⟩),(0,some ⟨46,none,[.sl 90,.o f,.i z]⟩),(3,some ⟨28,none,[.i x.kind,.i x.node,.b (.it (fF c' 12 x.q)),.i x.fst,.i x.nxt,.i x.cost]⟩),(85,some ⟨4,some (1,2),[.o true,.o false]⟩)],100⟩
theorem ES (L:List Nd)(i:Nat):(Bo L i).length=L.length:=List.length_set
theorem RF {L:List Nd}{i:Nat}(h:i < L.length)(j:Nat):(tat (Bo L i) j).q=(tat L j).q:=by
 unfold Bo;rw[P8 h];split
 ·rename_i e;rw[e]
 ·rfl
theorem Ade {L:List Nd}{x:Ch}{i:Nat}(ht:x.node.toNat=i)(hi:i < L.length):(((Bo L i)++[(⟨x.node,x.fst,x.nxt,true,(tat (Bo L i) i).q,0⟩:Nd)])++[(⟨x.node,x.fst,x.nxt,false,(tat ((Bo L i)++[(⟨x.node,x.fst,x.nxt,true,(tat (Bo L i) i).q,0⟩:Nd)]) i).q,0⟩:Nd)])=spL L x:=by
 unfold spL kid;rw[ht,QR (by rw[ES];exact hi),RF hi,List.append_assoc];rfl
theorem XE (L : List Nd) (f : Bool) (z : Int) (n : Nat) (hn : L.length = n) (hl : n ≤ 2000) (hD : Dn L (L.length - 1)) (x : Ch) (h : spE L x = 0) : SpM Tryz.prog I 123 [(0, some (tbx f z 1)), (1, some (nbx c L n))] [.one (.ptr 0 0), chT c' x] [(0, some (tbx f z 2)), (2, some (nbx c (spL L x) (n + 2)))] (li 0) := by
 unfold spE at h;by_cases h0:x.node < 0∨(L.length:Int)≤x.node∨x.fst < 0∨x.nxt < 0∨x.fst=x.nxt
 ·rw[if_pos h0] at h;omega
 ·rw [if_neg h0] at h
  obtain ⟨i,hni⟩ : ∃ i:Nat,x.node=(i:Int):=⟨x.node.toNat,by omega⟩
  have hi:i < L.length:=by omega
  have ht:x.node.toNat=i:=by omega
  rw[←Ade ht hi];rw[ht] at h;by_cases h6:(tat L i).st=0
  ·rw[if_neg (by simp[h6])] at h
   have hpa:=LJ (I:=I) (c:=c) f z n hn i hD hi (by omega)
   have hde:=Hf (I:=I) (c:=c) f z n hn i x.fst x.nxt hD hi;rw[←hni] at hpa hde;generalize (Be L i).length=k at *;by_cases h7:2000 < L.length+2∨32≤k
   ·rw[if_pos h7] at h;omega
   ·rw[if_neg h7] at h
    cases h9:Fb L i x.fst x.nxt with
    | true=>rw[h9,if_pos rfl] at h;omega
    | false =>
     rw[h9] at hde;have lo:LoopTr Tryz.prog I 121 (AQ Tryz.prog 123 0) (Aev c c' L f z n x i 0) (.exit 1) ⟨[],[(90,some ⟨103,some (9,n+1+1),Aa (((((Bo L i)++[(⟨x.node,x.fst,x.nxt,true,(tat (Bo L i) i).q,0⟩:Nd)])++[(⟨x.node,x.fst,x.nxt,false,(tat ((Bo L i)++[(⟨x.node,x.fst,x.nxt,true,(tat (Bo L i) i).q,0⟩:Nd)]) i).q,0⟩:Nd)])).map (Ag c))⟩),(0,some ⟨46,none,[.sl 90,.o f,.i z]⟩)],100⟩:=Bz (by simp) (Aev c c' L f z n x i) 2 (fun j hj=>by
      have hm:=ES L i;obtain rfl | rfl:j=0∨j=1:=by omega
      ·exact PG (Bo L i) f z n (by omega) hl x i hni (by omega)
      ·exact PF _ f z (n+1) (by rw[List.length_append,hm,hn];rfl) (by omega) x i hni (by rw[List.length_append];omega)) (by
      exact Rnd.nam [] (show Rnd _ _ _ _ _ _ ⟨[],[(90,some ⟨103,some (9,n+1+1),Aa (((((Bo L i)++[(⟨x.node,x.fst,x.nxt,true,(tat (Bo L i) i).q,0⟩:Nd)])++[(⟨x.node,x.fst,x.nxt,false,(tat ((Bo L i)++[(⟨x.node,x.fst,x.nxt,true,(tat (Bo L i) i).q,0⟩:Nd)]) i).q,0⟩:Nd)])).map (Ag c))⟩),(0,some ⟨46,none,[.sl 90,.o f,.i z]⟩)],101⟩ from rr [pa]) (t:=⟨[],[(90,some ⟨103,some (9,n+1+1),Aa (((((Bo L i)++[(⟨x.node,x.fst,x.nxt,true,(tat (Bo L i) i).q,0⟩:Nd)])++[(⟨x.node,x.fst,x.nxt,false,(tat ((Bo L i)++[(⟨x.node,x.fst,x.nxt,true,(tat (Bo L i) i).q,0⟩:Nd)]) i).q,0⟩:Nd)])).map (Ag c))⟩),(0,some ⟨46,none,[.sl 90,.o f,.i z]⟩)],100⟩) trivial ⟨rfl,rfl,rfl,ILe.refl,rfl,rfl,rfl,ILe.refl,trivial⟩)
     exact sm 121 [pk (Ai 3 x.node 0),pk (By 3 x.node (n:Nat)),pk (Ai 3 x.fst 0),pk (Ai 3 x.nxt 0),pk (Af 3 x.fst x.nxt),⟨.ix x.node i n,⟨by omega,by omega⟩⟩,⟨.part (Aa ((L).map (Ag c))) (i*9+8) 1 [.i ((tat L i).st)],(BL (c:=c) (fo:=8) (n:=1) hi rfl)⟩,pk (D7 3 ((tat L i).st) 0 false (decide_eq_true h6)),pk (AA 3 (n:Nat) 2 ⟨by omega,by omega⟩),pk (Aq 3 ((n:Nat)+2) 2000),pom [1] (hpa),pk (Tv 110 101 3 k (by kernel_rfl)),pk (By 3 (k:Int) 32),pom [1] (hde),⟨.ix x.node i n,⟨by omega,by omega⟩⟩,⟨.upd (Aa ((L).map (Ag c))) (i*9+8) [.i 1] (Aa (((L).set i ⟨(tat L i).par,(tat L i).fst,(tat L i).nxt,(tat L i).tog,(tat L i).q,1⟩).map (Ag c))),(Jt (c:=c) (fo:=8) hi ⟨(tat L i).par,(tat L i).fst,(tat L i).nxt,(tat L i).tog,(tat L i).q,1⟩ rfl)⟩,pl (lo),pm ((show Leads I _ ⟨[],[(90,some ⟨103,some (9,n+1+1),Aa (((((Bo L i)++[(⟨x.node,x.fst,x.nxt,true,(tat (Bo L i) i).q,0⟩:Nd)])++[(⟨x.node,x.fst,x.nxt,false,(tat ((Bo L i)++[(⟨x.node,x.fst,x.nxt,true,(tat (Bo L i) i).q,0⟩:Nd)]) i).q,0⟩:Nd)])).map (Ag c))⟩),(0,some ⟨46,none,[.sl 90,.o f,.i z]⟩)],100⟩ ⟨[],[(2,some ⟨103,some (9,n+1+1),Aa (((((Bo L i)++[(⟨x.node,x.fst,x.nxt,true,(tat (Bo L i) i).q,0⟩:Nd)])++[(⟨x.node,x.fst,x.nxt,false,(tat ((Bo L i)++[(⟨x.node,x.fst,x.nxt,true,(tat (Bo L i) i).q,0⟩:Nd)]) i).q,0⟩:Nd)])).map (Ag c))⟩),(0,some ⟨46,none,[.sl 2,.o f,.i z]⟩)],100⟩ from AN [(2,90)] trivial ⟨rfl,rfl,rfl,ILe.refl,rfl,rfl,rfl,ILe.refl,trivial⟩))]
  ·rw[if_pos h6] at h;omega
end
def clN (f:Bool)(z:Int)(x:Nd):Nd:=if x.st=0∧DQ f z x.q=true then ⟨x.par,x.fst,x.nxt,x.tog,x.q,2⟩ else x
def clL (L:List Nd)(f:Bool)(z:Int):List Nd:=L.map (clN f z)
def clP (L:List Nd)(f:Bool)(z:Int):Nat→List Nd
 | 0=>L
 | i+1=>if (tat (clP L f z i) i).st=0∧DQ f z (tat (clP L f z i) i).q=true then (clP L f z i).set i ⟨(tat (clP L f z i) i).par,(tat (clP L f z i) i).fst,(tat (clP L f z i) i).nxt,(tat (clP L f z i) i).tog,(tat (clP L f z i) i).q,2⟩ else clP L f z i
theorem Gv (L:List Nd)(f:Bool)(z:Int) : ∀ i,(clP L f z i).length=L.length
 | 0=>rfl
 | i+1=>by
  rw[clP];split
  ·rw[List.length_set,Gv L f z i]
  ·exact Gv L f z i
theorem Q3 (L : List Nd) (f : Bool) (z : Int) : ∀ i, i ≤ L.length → ∀ j, (clP L f z i)[j]? = if j < i then (L[j]?).map (clN f z) else L[j]?
 | 0,_,j=>by rw[if_neg (by omega)];rfl
 | i+1,hi,j=>by
  have ih:=Q3 L f z i (by omega)
  have hl:=Gv L f z i;have e:tat (clP L f z i) i=tat L i:=by unfold tat;rw[List.getD_eq_getElem?_getD,List.getD_eq_getElem?_getD,ih,if_neg (by omega)]
  have hg:L[i]? = some (tat L i):=Dm (by omega)
  rw[clP,e];by_cases hc:(tat L i).st=0∧DQ f z (tat L i).q=true
  ·rw[if_pos hc,List.getElem?_set]
   by_cases hij:i=j
   ·subst hij
    rw[if_pos rfl,if_pos (by omega),if_pos (by omega),hg]
    show some _=some (clN f z (tat L i));unfold clN;rw[if_pos hc]
   ·rw[if_neg hij,ih]
    by_cases h:j < i
    ·rw[if_pos h,if_pos (by omega)]
    ·rw[if_neg h,if_neg (by omega)]
  ·rw[if_neg hc,ih]
   by_cases h:j < i
   ·rw[if_pos h,if_pos (by omega)]
   ·rw[if_neg h]
    by_cases hij:j=i
    ·subst hij
     rw[if_pos (by omega),hg]
     show some _=some (clN f z (tat L j));unfold clN;rw[if_neg hc]
    ·rw[if_neg (by omega)]
theorem AbZ (L:List Nd)(f:Bool)(z:Int):clP L f z L.length=clL L f z:=by
 apply List.ext_getElem?;intro j;unfold clL;rw[Q3 L f z _ (Nat.le_refl _),List.getElem?_map];by_cases h:j < L.length
 ·rw[if_pos h]
 ·rw[if_neg h,List.getElem?_eq_none (by omega)];rfl
theorem Aac {L:List Nd}{n:Nat}(f:Bool)(z:Int)(hn:L.length=n):clP L f z n=clL L f z:=by rw[←hn,AbZ]
section
variable {I:WInv}{c c':Bool}
theorem DK {L:List Nd}(f:Bool)(z:Int)(n:Nat)(hn:L.length=n)(y:Nd)(r:Bool)(hr:DQ f z y.q=r):SpM Tryz.prog I 121 [(0,some (nbx c L n))] [.ag [.sl 0,.o f,.i z],ndT c y] [(0,some (nbx c L n))] (lb r) :=
 Lo (args:=[.ag [.sl 0,.o f,.i z],ndT c y]) (by rw[←hr];exact MG L f z c y) (by rw[List.length_map];exact hn.symm) Ge rfl GT rfl
def S8 (k:Nat)(c:Bool)(M:List Nd)(n:Nat)(f:Bool)(z:Int)(i:Int):Go.Proofs.YtdgbealknnmkoaaGreatDoor.St:=⟨[(0,.p 0 0),(31,.s k),(32,.i (n:Int)),(33,.i i)],[(k,some ⟨103,some (9,n),Aa ((M).map (Ag c))⟩),(0,some ⟨46,none,[.sl k,.o f,.i z]⟩)],50⟩
def AcL (k:Nat)(c:Bool)(M:List Nd)(n:Nat)(f:Bool)(z:Int):Go.Proofs.YtdgbealknnmkoaaGreatDoor.St:=⟨[],[(k,some ⟨103,some (9,n),Aa ((M).map (Ag c))⟩),(0,some ⟨46,none,[.sl k,.o f,.i z]⟩)],50⟩
theorem Om (M:List Nd)(f:Bool)(z:Int)(n:Nat)(hn:M.length=n)(hl:n≤2002)(i:Nat)(hi:i < M.length):Rnd Tryz.prog I 56 (AQ Tryz.prog 81 0) (S8 1 c M n f z (i:Int)) .normal (S8 1 c (if (tat M i).st=0∧DQ f z (tat M i).q=true then M.set i ⟨(tat M i).par,(tat M i).fst,(tat M i).nxt,(tat M i).tog,(tat M i).q,2⟩ else M) n f z ((i+1:Nat):Int)):=by
 by_cases h1:(tat M i).st=0
 ·cases h2:DQ f z (tat M i).q with
  | true =>
   have hset:=DK (I:=I) (c:=c) f z n hn (tat M i) true h2;rw[if_pos ⟨h1,rfl⟩];exact Rnd.nam [] (show Rnd _ _ _ _ _ _ ⟨[(0,.p 0 0),(31,.s 1),(32,.i (n:Int)),(33,.i ((i+1:Nat):Int))],[(1,some ⟨103,some (9,n),Aa (((M).set i ⟨(tat M i).par,(tat M i).fst,(tat M i).nxt,(tat M i).tog,(tat M i).q,2⟩).map (Ag c))⟩),(0,some ⟨46,none,[.sl 1,.o f,.i z]⟩)],77⟩ from rr [pk (Al 3 (i:Int) (n:Int)),⟨.ix (i:Int) i n,⟨by omega,by omega⟩⟩,⟨.part (Aa ((M).map (Ag c))) (i*9) 9 [.i ((tat M i).par),.i ((tat M i).fst),.i ((tat M i).nxt),.o ((tat M i).tog),.b (.it (fF c 12 (tat M i).q)),.i ((tat M i).st)],(BL (c:=c) (fo:=0) (n:=9) hi rfl)⟩,pk (AT 3 ((tat M i).st) 0 true (decide_eq_true h1)),pom [1] (hset),⟨.ix (i:Int) i n,⟨by omega,by omega⟩⟩,⟨.upd (Aa ((M).map (Ag c))) (i*9+8) [.i 2] (Aa (((M).set i ⟨(tat M i).par,(tat M i).fst,(tat M i).nxt,(tat M i).tog,(tat M i).q,2⟩).map (Ag c))),(Jt (c:=c) (fo:=8) hi ⟨(tat M i).par,(tat M i).fst,(tat M i).nxt,(tat M i).tog,(tat M i).q,2⟩ rfl)⟩,pk (AA 3 (i:Int) 1 ⟨by omega,by omega⟩)]) (t:=⟨[(0,.p 0 0),(31,.s 1),(32,.i (n:Int)),(33,.i ((i+1:Nat):Int))],[(1,some ⟨103,some (9,n),Aa (((M).set i ⟨(tat M i).par,(tat M i).fst,(tat M i).nxt,(tat M i).tog,(tat M i).q,2⟩).map (Ag c))⟩),(0,some ⟨46,none,[.sl 1,.o f,.i z]⟩)],50⟩) ⟨rfl,TVle.refl,rfl,TVle.refl,rfl,TVle.refl,rfl,TVle.refl,trivial⟩ ⟨rfl,rfl,rfl,ILe.refl,rfl,rfl,rfl,ILe.refl,trivial⟩
  | false =>
   have hset:=DK (I:=I) (c:=c) f z n hn (tat M i) false h2;rw[if_neg (fun h=>by cases h.2)]
   exact Rnd.nam [] (show Rnd _ _ _ _ _ _ ⟨[(0,.p 0 0),(31,.s 1),(32,.i (n:Int)),(33,.i ((i+1:Nat):Int))],[(1,some ⟨103,some (9,n),Aa ((M).map (Ag c))⟩),(0,some ⟨46,none,[.sl 1,.o f,.i z]⟩)],69⟩ from rr [pk (Al 3 (i:Int) (n:Int)),⟨.ix (i:Int) i n,⟨by omega,by omega⟩⟩,⟨.part (Aa ((M).map (Ag c))) (i*9) 9 [.i ((tat M i).par),.i ((tat M i).fst),.i ((tat M i).nxt),.o ((tat M i).tog),.b (.it (fF c 12 (tat M i).q)),.i ((tat M i).st)],(BL (c:=c) (fo:=0) (n:=9) hi rfl)⟩,pk (AT 3 ((tat M i).st) 0 true (decide_eq_true h1)),pom [1] (hset),pk (AA 3 (i:Int) 1 ⟨by omega,by omega⟩)]) (t:=⟨[(0,.p 0 0),(31,.s 1),(32,.i (n:Int)),(33,.i ((i+1:Nat):Int))],[(1,some ⟨103,some (9,n),Aa ((M).map (Ag c))⟩),(0,some ⟨46,none,[.sl 1,.o f,.i z]⟩)],50⟩) ⟨rfl,TVle.refl,rfl,TVle.refl,rfl,TVle.refl,rfl,TVle.refl,trivial⟩ ⟨rfl,rfl,rfl,ILe.refl,rfl,rfl,rfl,ILe.refl,trivial⟩
 ·rw[if_neg (fun h=>h1 h.1)]
  exact Rnd.nam [] (show Rnd _ _ _ _ _ _ ⟨[(0,.p 0 0),(31,.s 1),(32,.i (n:Int)),(33,.i ((i+1:Nat):Int))],[(1,some ⟨103,some (9,n),Aa ((M).map (Ag c))⟩),(0,some ⟨46,none,[.sl 1,.o f,.i z]⟩)],69⟩ from rr [pk (Al 3 (i:Int) (n:Int)),⟨.ix (i:Int) i n,⟨by omega,by omega⟩⟩,⟨.part (Aa ((M).map (Ag c))) (i*9) 9 [.i ((tat M i).par),.i ((tat M i).fst),.i ((tat M i).nxt),.o ((tat M i).tog),.b (.it (fF c 12 (tat M i).q)),.i ((tat M i).st)],(BL (c:=c) (fo:=0) (n:=9) hi rfl)⟩,pk (AT 3 ((tat M i).st) 0 false (decide_eq_false h1)),pk (AA 3 (i:Int) 1 ⟨by omega,by omega⟩)]) (t:=⟨[(0,.p 0 0),(31,.s 1),(32,.i (n:Int)),(33,.i ((i+1:Nat):Int))],[(1,some ⟨103,some (9,n),Aa ((M).map (Ag c))⟩),(0,some ⟨46,none,[.sl 1,.o f,.i z]⟩)],50⟩) ⟨rfl,TVle.refl,rfl,TVle.refl,rfl,TVle.refl,rfl,TVle.refl,trivial⟩ ⟨rfl,rfl,rfl,ILe.refl,rfl,rfl,rfl,ILe.refl,trivial⟩
theorem K4 (L:List Nd)(f:Bool)(z:Int)(n:Nat)(hn:L.length=n)(hl:n≤2002):LoopTr Tryz.prog I 56 (AQ Tryz.prog 81 0) (S8 1 c L n f z ((0:Nat):Int)) (.exit 1) (AcL 1 c (clL L f z) n f z) :=
 Bz (by simp) (fun i=>S8 1 c (clP L f z i) n f z (i:Int)) n (fun i hi=>by
  have hm:=Gv L f z i;have:=Om (I:=I) (c:=c) (clP L f z i) f z n (by omega) hl i (by omega)
  exact this) (by
  rw[Aac f z hn];generalize clL L f z=M;exact Rnd.nam [] (show Rnd _ _ _ _ _ _ ⟨[],[(1,some ⟨103,some (9,n),Aa ((M).map (Ag c))⟩),(0,some ⟨46,none,[.sl 1,.o f,.i z]⟩)],51⟩ from rr [pk (Ai 3 (n:Int) (n:Int))]) (t:=⟨[],[(1,some ⟨103,some (9,n),Aa ((M).map (Ag c))⟩),(0,some ⟨46,none,[.sl 1,.o f,.i z]⟩)],50⟩) trivial ⟨rfl,rfl,rfl,ILe.refl,rfl,rfl,rfl,ILe.refl,trivial⟩)
end
section
variable {I:WInv}{c c':Bool}
theorem NJ (M:List Nd)(f:Bool)(z:Int)(n:Nat)(hn:M.length=n)(hl:n≤2002)(i:Nat)(hi:i < M.length):Rnd Tryz.prog I 56 (AQ Tryz.prog 81 0) (S8 14 c M n f z (i:Int)) .normal (S8 14 c (if (tat M i).st=0∧DQ f z (tat M i).q=true then M.set i ⟨(tat M i).par,(tat M i).fst,(tat M i).nxt,(tat M i).tog,(tat M i).q,2⟩ else M) n f z ((i+1:Nat):Int)):=by
 by_cases h1:(tat M i).st=0
 ·cases h2:DQ f z (tat M i).q with
  | true =>
   have hset:=DK (I:=I) (c:=c) f z n hn (tat M i) true h2;rw[if_pos ⟨h1,rfl⟩];exact Rnd.nam [] (show Rnd _ _ _ _ _ _ ⟨[(0,.p 0 0),(31,.s 14),(32,.i (n:Int)),(33,.i ((i+1:Nat):Int))],[(14,some ⟨103,some (9,n),Aa (((M).set i ⟨(tat M i).par,(tat M i).fst,(tat M i).nxt,(tat M i).tog,(tat M i).q,2⟩).map (Ag c))⟩),(0,some ⟨46,none,[.sl 14,.o f,.i z]⟩)],77⟩ from rr [pk (Al 3 (i:Int) (n:Int)),⟨.ix (i:Int) i n,⟨by omega,by omega⟩⟩,⟨.part (Aa ((M).map (Ag c))) (i*9) 9 [.i ((tat M i).par),.i ((tat M i).fst),.i ((tat M i).nxt),.o ((tat M i).tog),.b (.it (fF c 12 (tat M i).q)),.i ((tat M i).st)],(BL (c:=c) (fo:=0) (n:=9) hi rfl)⟩,pk (AT 3 ((tat M i).st) 0 true (decide_eq_true h1)),pom [14] (hset),⟨.ix (i:Int) i n,⟨by omega,by omega⟩⟩,⟨.upd (Aa ((M).map (Ag c))) (i*9+8) [.i 2] (Aa (((M).set i ⟨(tat M i).par,(tat M i).fst,(tat M i).nxt,(tat M i).tog,(tat M i).q,2⟩).map (Ag c))),(Jt (c:=c) (fo:=8) hi ⟨(tat M i).par,(tat M i).fst,(tat M i).nxt,(tat M i).tog,(tat M i).q,2⟩ rfl)⟩,pk (AA 3 (i:Int) 1 ⟨by omega,by omega⟩)]) (t:=⟨[(0,.p 0 0),(31,.s 14),(32,.i (n:Int)),(33,.i ((i+1:Nat):Int))],[(14,some ⟨103,some (9,n),Aa (((M).set i ⟨(tat M i).par,(tat M i).fst,(tat M i).nxt,(tat M i).tog,(tat M i).q,2⟩).map (Ag c))⟩),(0,some ⟨46,none,[.sl 14,.o f,.i z]⟩)],50⟩) ⟨rfl,TVle.refl,rfl,TVle.refl,rfl,TVle.refl,rfl,TVle.refl,trivial⟩ ⟨rfl,rfl,rfl,ILe.refl,rfl,rfl,rfl,ILe.refl,trivial⟩
  | false =>
   have hset:=DK (I:=I) (c:=c) f z n hn (tat M i) false h2;rw[if_neg (fun h=>by cases h.2)]
   exact Rnd.nam [] (show Rnd _ _ _ _ _ _ ⟨[(0,.p 0 0),(31,.s 14),(32,.i (n:Int)),(33,.i ((i+1:Nat):Int))],[(14,some ⟨103,some (9,n),Aa ((M).map (Ag c))⟩),(0,some ⟨46,none,[.sl 14,.o f,.i z]⟩)],69⟩ from rr [pk (Al 3 (i:Int) (n:Int)),⟨.ix (i:Int) i n,⟨by omega,by omega⟩⟩,⟨.part (Aa ((M).map (Ag c))) (i*9) 9 [.i ((tat M i).par),.i ((tat M i).fst),.i ((tat M i).nxt),.o ((tat M i).tog),.b (.it (fF c 12 (tat M i).q)),.i ((tat M i).st)],(BL (c:=c) (fo:=0) (n:=9) hi rfl)⟩,pk (AT 3 ((tat M i).st) 0 true (decide_eq_true h1)),pom [14] (hset),pk (AA 3 (i:Int) 1 ⟨by omega,by omega⟩)]) (t:=⟨[(0,.p 0 0),(31,.s 14),(32,.i (n:Int)),(33,.i ((i+1:Nat):Int))],[(14,some ⟨103,some (9,n),Aa ((M).map (Ag c))⟩),(0,some ⟨46,none,[.sl 14,.o f,.i z]⟩)],50⟩) ⟨rfl,TVle.refl,rfl,TVle.refl,rfl,TVle.refl,rfl,TVle.refl,trivial⟩ ⟨rfl,rfl,rfl,ILe.refl,rfl,rfl,rfl,ILe.refl,trivial⟩
 ·rw[if_neg (fun h=>h1 h.1)]
  exact Rnd.nam [] (show Rnd _ _ _ _ _ _ ⟨[(0,.p 0 0),(31,.s 14),(32,.i (n:Int)),(33,.i ((i+1:Nat):Int))],[(14,some ⟨103,some (9,n),Aa ((M).map (Ag c))⟩),(0,some ⟨46,none,[.sl 14,.o f,.i z]⟩)],69⟩ from rr [pk (Al 3 (i:Int) (n:Int)),⟨.ix (i:Int) i n,⟨by omega,by omega⟩⟩,⟨.part (Aa ((M).map (Ag c))) (i*9) 9 [.i ((tat M i).par),.i ((tat M i).fst),.i ((tat M i).nxt),.o ((tat M i).tog),.b (.it (fF c 12 (tat M i).q)),.i ((tat M i).st)],(BL (c:=c) (fo:=0) (n:=9) hi rfl)⟩,pk (AT 3 ((tat M i).st) 0 false (decide_eq_false h1)),pk (AA 3 (i:Int) 1 ⟨by omega,by omega⟩)]) (t:=⟨[(0,.p 0 0),(31,.s 14),(32,.i (n:Int)),(33,.i ((i+1:Nat):Int))],[(14,some ⟨103,some (9,n),Aa ((M).map (Ag c))⟩),(0,some ⟨46,none,[.sl 14,.o f,.i z]⟩)],50⟩) ⟨rfl,TVle.refl,rfl,TVle.refl,rfl,TVle.refl,rfl,TVle.refl,trivial⟩ ⟨rfl,rfl,rfl,ILe.refl,rfl,rfl,rfl,ILe.refl,trivial⟩
theorem On (L:List Nd)(f:Bool)(z:Int)(n:Nat)(hn:L.length=n)(hl:n≤2002):LoopTr Tryz.prog I 56 (AQ Tryz.prog 81 0) (S8 14 c L n f z ((0:Nat):Int)) (.exit 1) (AcL 14 c (clL L f z) n f z) :=
 Bz (by simp) (fun i=>S8 14 c (clP L f z i) n f z (i:Int)) n (fun i hi=>by
  have hm:=Gv L f z i;have:=NJ (I:=I) (c:=c) (clP L f z i) f z n (by omega) hl i (by omega)
  exact this) (by
  rw[Aac f z hn];generalize clL L f z=M;exact Rnd.nam [] (show Rnd _ _ _ _ _ _ ⟨[],[(14,some ⟨103,some (9,n),Aa ((M).map (Ag c))⟩),(0,some ⟨46,none,[.sl 14,.o f,.i z]⟩)],51⟩ from rr [pk (Ai 3 (n:Int) (n:Int))]) (t:=⟨[],[(14,some ⟨103,some (9,n),Aa ((M).map (Ag c))⟩),(0,some ⟨46,none,[.sl 14,.o f,.i z]⟩)],50⟩) trivial ⟨rfl,rfl,rfl,ILe.refl,rfl,rfl,rfl,ILe.refl,trivial⟩)
def chE (L:List Nd)(x:Ch):Int:=if x.kind=1 then raE L x else if x.kind=2 then spE L x else if x.kind=3 then fiE x else 5
def chM (L:List Nd)(f:Bool)(z:Int)(x:Ch):List Nd×Bool×Int:=if x.kind=1 then (raL L x,f,z) else if x.kind=2 then (spL L x,f,z) else (L,fnF f z x)
def chS (L:List Nd)(f:Bool)(z:Int)(x:Ch):List Nd×Bool×Int:=(clL (chM L f z x).1 (chM L f z x).2.1 (chM L f z x).2.2,(chM L f z x).2)
theorem TQ (L:List Nd)(f:Bool)(z:Int)(n:Nat)(hn:L.length=n)(hl:n≤2000)(hD:Dn L (L.length - 1))(x:Ch)(h:chE L x≠0):SpM Tryz.prog I 81 [(0,some (tbx f z 1)),(1,some (nbx c L n))] [.one (.ptr 0 0),chT c' x] [(0,some (tbx f z 1)),(1,some (nbx c L n))] (li (chE L x)):=by
 unfold chE at h ⊢;by_cases k1:x.kind=1
 ·rw[if_pos k1] at h ⊢
  have hs:=Wg (I:=I) (c:=c) (c':=c') L f z n hn x h;generalize raE L x=r at *;exact sm 56 [pk (Am 3 x.kind 1),pom [0,1] (hs),pk (AO 32 r 0)]
 ·rw[if_neg k1] at h ⊢
  by_cases k2:x.kind=2
  ·rw[if_pos k2] at h ⊢
   have hs:=VG (I:=I) (c:=c) (c':=c') L f z n hn hl hD x h;generalize spE L x=r at *;exact sm 56 [pk (Af 3 x.kind 1),pk (Am 3 x.kind 2),pom [0,1] (hs),pk (AO 32 r 0)]
  ·rw[if_neg k2] at h ⊢
   by_cases k3:x.kind=3
   ·rw[if_pos k3] at h ⊢
    have hs:=Zx (I:=I) (c':=c') f z (nbx c L n) x h;generalize fiE x=r at *;exact sm 56 [pk (Af 3 x.kind 1),pk (Af 3 x.kind 2),pk (Am 3 x.kind 3),pom [0,1] (hs),pk (AO 32 r 0)]
   ·rw[if_neg k3]
    exact sm 56 [pk (Af 3 x.kind 1),pk (Af 3 x.kind 2),pk (Af 3 x.kind 3),pa]
theorem S9 (L:List Nd)(f:Bool)(z:Int)(n:Nat)(hn:L.length=n)(hl:n≤2000)(x:Ch)(h:chE L x=0)(hk:x.kind≠2):SpM Tryz.prog I 81 [(0,some (tbx f z 1)),(1,some (nbx c L n))] [.one (.ptr 0 0),chT c' x] [(0,some (tbx (chS L f z x).2.1 (chS L f z x).2.2 1)),(1,some (nbx c (chS L f z x).1 n))] (li 0):=by
 unfold chE at h;unfold chS chM;by_cases k1:x.kind=1
 ·rw[if_pos k1] at h ⊢
  have hs:=YF (I:=I) (c:=c) (c':=c') L f z n hn x h;have hm:(raL L x).length=n:=by
   unfold raL;split
   ·rw[List.length_set,hn]
   ·exact hn
  have lo:=K4 (I:=I) (c:=c) (raL L x) f z n hm (by omega)
  dsimp only
  generalize clL (raL L x) f z=K at *;generalize raL L x=M at *;exact sm 56 [pk (Am 3 x.kind 1),pom [0,1] (hs),pa,pl (lo)]
 ·rw[if_neg k1,if_neg hk] at h ⊢
  by_cases k3:x.kind=3
  ·rw[if_pos k3] at h
   have hs:=AbC (I:=I) (c':=c') f z (nbx c L n) x h;generalize fnF f z x=p at *;obtain ⟨f2,z2⟩:=p
   dsimp only at hs ⊢
   have lo:=K4 (I:=I) (c:=c) L f2 z2 n hn (by omega)
   generalize clL L f2 z2=K at *;exact sm 56 [pk (Af 3 x.kind 1),pk (Af 3 x.kind 2),pk (Am 3 x.kind 3),pom [0,1] (hs),pa,pl (lo)]
  ·rw[if_neg k3] at h;omega
theorem Q6 (L:List Nd)(f:Bool)(z:Int)(n:Nat)(hn:L.length=n)(hl:n≤2000)(hD:Dn L (L.length - 1))(x:Ch)(h:chE L x=0)(hk:x.kind=2):SpM Tryz.prog I 81 [(0,some (tbx f z 1)),(1,some (nbx c L n))] [.one (.ptr 0 0),chT c' x] [(0,some (tbx (chS L f z x).2.1 (chS L f z x).2.2 2)),(2,some (nbx c (chS L f z x).1 (n+2)))] (li 0):=by
 unfold chE at h;unfold chS chM;rw[if_neg (by omega),if_pos hk] at h ⊢
 have hs:=XE (I:=I) (c:=c) (c':=c') L f z n hn hl hD x h;have hm:(spL L x).length=n+2:=by unfold spL;rw[List.length_append,ES,hn];rfl
 have lo:=On (I:=I) (c:=c) (spL L x) f z (n+2) hm (by omega)
 dsimp only
 generalize clL (spL L x) f z=K at *;generalize spL L x=M at *;exact sm 56 [pk (Af 3 x.kind 1),pk (Am 3 x.kind 2),pom [0,1] (hs),pa,pl (lo),pm ((show Leads I _ ⟨[],[(14,some ⟨103,some (9,n+2),Aa ((K).map (Ag c))⟩),(0,some ⟨46,none,[.sl 14,.o f,.i z]⟩)],50⟩ ⟨[],[(2,some ⟨103,some (9,n+2),Aa ((K).map (Ag c))⟩),(0,some ⟨46,none,[.sl 2,.o f,.i z]⟩)],50⟩ from AN [(2,14)] trivial ⟨rfl,rfl,rfl,ILe.refl,rfl,rfl,rfl,ILe.refl,trivial⟩))]
end
theorem We {α:Type}(L:List Nd)(g:Nd→α):((List.range L.length).map fun j=>g (tat L j))=L.map g:=by
 apply List.ext_getElem?;intro j;rw[List.getElem?_map,List.getElem?_map];by_cases h:j < L.length
 ·rw[List.getElem?_range h,Dm h];rfl
 ·rw[List.getElem?_eq_none (by simpa using h),List.getElem?_eq_none (by omega)];rfl
section
variable {I:WInv}{c c':Bool}
def apC (L:List Nd)(f:Bool)(z:Int)(x:Ch):Int:=if tvc L f z≠0 then tvc L f z else chE L x
def apS (L:List Nd)(f:Bool)(z:Int)(x:Ch):List Nd×Bool×Int:=if apC L f z x=0 then chS L f z x else ([],false,0)
theorem Aes:CTle (.ag [.z,.o false,.i 0]) (trT true [] false 0):=ILe.ag (ILe.cons (fun N w g l hl=>by
 have hl:l=[.slice none 0 0]:=hl;subst hl;exact ⟨none,0,rfl,Nat.le_refl _,by simp[maxLen],fun h=>absurd rfl h⟩) ILe.refl)
theorem Sp.errT {P:Program}{g:FuncId}{args:List CT}{r:CT}(h:Sp P I g args (.tu [.ag [.z,.o false,.i 0],r])):Sp P I g args (.tu [trT true [] false 0,r]):=h.rs (Lu ⟨Aes,CTle.refl,trivial⟩)
theorem Ve (L:List Nd)(f:Bool)(z:Int)(x:Ch):(chM L f z x).1.length=if x.kind=2 then L.length+2 else L.length:=by
 unfold chM;by_cases k1:x.kind=1
 ·rw[if_pos k1,if_neg (by omega)]
  unfold raL
  dsimp only
  split
  ·rw[List.length_set]
  ·rfl
 ·rw[if_neg k1]
  by_cases k2:x.kind=2
  ·rw[if_pos k2,if_pos k2]
   unfold spL;rw[List.length_append,ES];rfl
  ·rw[if_neg k2,if_neg k2]
theorem Vd (L:List Nd)(f:Bool)(z:Int)(x:Ch):(chS L f z x).1.length=if x.kind=2 then L.length+2 else L.length:=by
 unfold chS clL;rw[List.length_map,Ve]
def DE (q:Rat):List Nd:=[⟨-1,0,0,false,q,0⟩]
end
abbrev Bq (x:Bool):List It0:=[.lit (.bool x)]
def bat (D:List Bool)(i:Nat):Bool:=D.getD i false
theorem Aap {D:List Bool}{i:Nat}(h:i < D.length):D[i]? = some (bat D i):=by unfold bat;rw[List.getD_eq_getElem?_getD,List.getElem?_eq_getElem h];rfl
theorem Ack {D:List Bool}{i:Nat}{f:Bool→List It0}(h:i < D.length):(D.map f)[i]? = some (f (bat D i)):=map_some (Aap h)
theorem Uw {D:List Bool} : ∀ r∈D.map Bq,Cn r=1:=by intro r hr;obtain ⟨x,_,rfl⟩:=List.mem_map.1 hr;rfl
def At (L:List Nd):List Int:=L.map (·.par)
def AG (L:List Nd):List De:=L.map dcn
def Ck (L:List Nd):List Bool:=L.map fun x=>decide (x.st=1)
theorem JY {L:List Nd}{i:Nat}(h:i < L.length):iat (At L) i=(tat L i).par:=by unfold iat At;rw[List.getD_eq_getElem?_getD,List.getElem?_map,Dm h];rfl
theorem Kx {L:List Nd}{i:Nat}(h:i < L.length):dat (AG L) i=dcn (tat L i):=by unfold dat AG;rw[List.getD_eq_getElem?_getD,List.getElem?_map,Dm h];rfl
theorem FZ {L:List Nd}{i:Nat}(h:i < L.length):bat (Ck L) i=decide ((tat L i).st=1):=by unfold bat Ck;rw[List.getD_eq_getElem?_getD,List.getElem?_map,Dm h];rfl
theorem Dp (L:List Nd):(At L).length=L.length:=List.length_map _
theorem Fa (L:List Nd):(AG L).length=L.length:=List.length_map _
theorem GC (L:List Nd):(Ck L).length=L.length:=List.length_map _
def Cs {α:Type}(L:List Nd)(g:Nd→α)(i:Nat):List α:=(List.range i).map fun j=>g (tat L j)
theorem DY {α:Type}(L:List Nd)(g:Nd→α)(i:Nat):Cs L g (i+1)=Cs L g i++[g (tat L i)]:=by unfold Cs;rw[List.range_succ,List.map_append];rfl
theorem EW {α:Type}(L:List Nd)(g:Nd→α):Cs L g L.length=L.map g:=We L g
section
variable {I:WInv}{c c':Bool}
def YU (c:Bool)(L:List Nd)(f:Bool)(z:Int)(i:Nat):Go.Proofs.YtdgbealknnmkoaaGreatDoor.St:=⟨[(1,.p 0 0),(5,.s 40),(6,.s 41),(7,.s 42),(8,.i (i:Int))],[(40,some ⟨3,some (1,i),Aa ((Cs L (·.par) i).map Ah)⟩),(41,some ⟨101,some (3,i),Aa ((Cs L dcn i).map Av)⟩),(42,some ⟨4,some (1,i),Aa ((Cs L (fun x=>decide (x.st=1)) i).map Bq)⟩),(0,some ⟨46,none,[.b (.it (slI 9 ((L).map (Ag c)))),.o f,.i z]⟩)],50⟩
theorem RN (L:List Nd)(f:Bool)(z:Int)(i:Nat)(hi:i < L.length)(hl:L.length≤2002):Rnd Tryz.prog I 47 (AQ Tryz.prog 75 0) (YU c L f z i) .normal (YU c L f z (i+1)):=by
 exact Rnd.nam [(40,63),(41,72),(42,82)] (show Rnd _ _ _ _ _ _ ⟨[(1,.p 0 0),(5,.s 63),(6,.s 72),(7,.s 82),(8,.i ((i+1:Nat):Int))],[(63,some ⟨3,some (1,i+1),(Aa ((Cs L (·.par) i).map Ah))++([.i ((tat L i).par)])⟩),(72,some ⟨101,some (3,i+1),(Aa ((Cs L dcn i).map Av))++([.i ((tat L i).fst),.i ((tat L i).nxt),.o ((tat L i).tog)])⟩),(82,some ⟨4,some (1,i+1),(Aa ((Cs L (fun x=>decide (x.st=1)) i).map Bq))++([.o (decide (((tat L i).st)=1))])⟩),(0,some ⟨46,none,[.b (.it (slI 9 ((L).map (Ag c)))),.o f,.i z]⟩)],89⟩ from rr [pk (AK 44 103 3 9 ((L).map (Ag c)) ((L).length:Int)),pk (Al 3 (i:Int) ((L).length:Int)),pk (Aj 44 103 9 ((L).map (Ag c)) i (i:Int) ((Ag c) (tat L i)) (AR hi)),⟨.ap i 1 8,⟨by omega,by simp[maxLen];omega⟩⟩,pk (Aj 44 103 9 ((L).map (Ag c)) i (i:Int) ((Ag c) (tat L i)) (AR hi)),⟨.ap i 1 24,⟨by omega,by simp[maxLen];omega⟩⟩,pk (Aj 44 103 9 ((L).map (Ag c)) i (i:Int) ((Ag c) (tat L i)) (AR hi)),pk (AT 3 ((tat L i).st) 1 (decide (((tat L i).st)=1)) rfl),⟨.ap i 1 1,⟨by omega,by simp[maxLen];omega⟩⟩,pk (AA 3 (i:Int) 1 ⟨by omega,by omega⟩)]) (t:=⟨[(1,.p 0 0),(5,.s 40),(6,.s 41),(7,.s 42),(8,.i ((i+1:Nat):Int))],[(40,some ⟨3,some (1,i+1),Aa ((Cs L (·.par) (i+1)).map Ah)⟩),(41,some ⟨101,some (3,i+1),Aa ((Cs L dcn (i+1)).map Av)⟩),(42,some ⟨4,some (1,i+1),Aa ((Cs L (fun x=>decide (x.st=1)) (i+1)).map Bq)⟩),(0,some ⟨46,none,[.b (.it (slI 9 ((L).map (Ag c)))),.o f,.i z]⟩)],50⟩) ⟨rfl,TVle.refl,rfl,TVle.refl,rfl,TVle.refl,rfl,TVle.refl,rfl,TVle.refl,trivial⟩ ⟨rfl,rfl,rfl,ILe.eq (show (Aa ((Cs L (·.par) i).map Ah))++([.i ((tat L i).par)])=Aa ((Cs L (·.par) (i+1)).map Ah) from (by rw[DY,List.map_append,CF];rfl)),rfl,rfl,rfl,ILe.eq (show (Aa ((Cs L dcn i).map Av))++([.i ((tat L i).fst),.i ((tat L i).nxt),.o ((tat L i).tog)])=Aa ((Cs L dcn (i+1)).map Av) from (by rw[DY,List.map_append,CF];rfl)),rfl,rfl,rfl,ILe.eq (show (Aa ((Cs L (fun x=>decide (x.st=1)) i).map Bq))++([.o (decide (((tat L i).st)=1))])=Aa ((Cs L (fun x=>decide (x.st=1)) (i+1)).map Bq) from (by rw[DY,List.map_append,CF];rfl)),rfl,rfl,rfl,ILe.refl,trivial⟩
theorem WC (L:List Nd)(f:Bool)(z:Int):Leads I 47 ⟨[(1,.p 0 0),(5,.cv (.one (.z))),(6,.cv (.one (.z))),(7,.cv (.one (.z))),(8,.i 0)],[(0,some ⟨46,none,[.b (.it (slI 9 ((L).map (Ag c)))),.o f,.i z]⟩)],47⟩ (YU c L f z 0) :=
 (EP (t:=5) (k:=40) 3 1 rfl rfl rfl).trans ((EP (t:=6) (k:=41) 101 3 rfl rfl rfl).trans ((EP (t:=7) (k:=42) 4 1 rfl rfl rfl).trans (Jv ⟨rfl,rfl,rfl,rfl,rfl,trivial⟩ ⟨rfl,rfl,rfl,rfl,trivial⟩)))
theorem Tx (L:List Nd)(f:Bool)(z:Int)(n:Nat)(hn:L.length=n)(hl:n≤2002):LoopTr Tryz.prog I 47 (AQ Tryz.prog 75 0) ⟨[(1,.p 0 0),(5,.cv (.one (.z))),(6,.cv (.one (.z))),(7,.cv (.one (.z))),(8,.i 0)],[(0,some ⟨46,none,[.b (.it (slI 9 ((L).map (Ag c)))),.o f,.i z]⟩)],47⟩ (.exit 0) ⟨[(5,.s 40),(6,.s 41),(7,.s 42)],[(40,some ⟨3,some (1,n),Aa ((At L).map Ah)⟩),(41,some ⟨101,some (3,n),Aa ((AG L).map Av)⟩),(42,some ⟨4,some (1,n),Aa ((Ck L).map Bq)⟩)],50⟩:=by
 refine LoopTr.pre (WC L f z) (Bz (by simp) (fun i=>YU c L f z i) n (fun i hi=>RN L f z i (by omega) (by omega)) ?_)
 unfold YU;rw[←hn,EW,EW,EW,hn];exact Rnd.nam [] (show Rnd _ _ _ _ _ _ ⟨[(5,.s 40),(6,.s 41),(7,.s 42)],[(40,some ⟨3,some (1,n),Aa ((At L).map Ah)⟩),(41,some ⟨101,some (3,n),Aa ((AG L).map Av)⟩),(42,some ⟨4,some (1,n),Aa ((Ck L).map Bq)⟩)],55⟩ from rr [pk (AK 44 103 3 9 ((L).map (Ag c)) ((L).length:Int)),pk (Ai 3 (n:Int) ((L).length:Int))]) (t:=⟨[(5,.s 40),(6,.s 41),(7,.s 42)],[(40,some ⟨3,some (1,n),Aa ((At L).map Ah)⟩),(41,some ⟨101,some (3,n),Aa ((AG L).map Av)⟩),(42,some ⟨4,some (1,n),Aa ((Ck L).map Bq)⟩)],50⟩) ⟨rfl,TVle.refl,rfl,TVle.refl,rfl,TVle.refl,trivial⟩ ⟨rfl,rfl,rfl,ILe.refl,rfl,rfl,rfl,ILe.refl,rfl,rfl,rfl,ILe.refl,trivial⟩
abbrev R3 (L:List Nd):CT := .t (slI 1 ((At L).map Ah))
abbrev Su (L:List Nd):CT := .t (deI (AG L))
abbrev Adc (L:List Nd):CT := .t (slI 1 ((Ck L).map Bq))
theorem YY (L:List Nd)(f:Bool)(z:Int)(hl:L.length≤2002):Sp Tryz.prog I 75 [trT c L f z] (.tu [R3 L,Su L,Adc L]):=by
 obtain ⟨n,hn⟩ : ∃ n,L.length=n:=⟨_,rfl⟩;have lo:=Tx (I:=I) (c:=c) L f z n hn (by omega)
 exact sr 47 [pl (lo),pm (AZ (I:=I) (t:=5) (k:=40) (E:=[(6,.s 41),(7,.s 42)]) (B:=[(41,some ⟨101,some (3,n),Aa ((AG L).map Av)⟩),(42,some ⟨4,some (1,n),Aa ((Ck L).map Bq)⟩)]) (nx:=50) (T:=3) (sz:=1) (n:=n) ((At L).map Ah) rfl (by rw[List.length_map,Dp];exact hn.symm) Ma rfl),pm (AZ (I:=I) (t:=6) (k:=41) (E:=[(5,.t (slI 1 ((At L).map (Ah)))),(7,.s 42)]) (B:=[(42,some ⟨4,some (1,n),Aa ((Ck L).map Bq)⟩)]) (nx:=50) (T:=101) (sz:=3) (n:=n) ((AG L).map Av) rfl (by rw[List.length_map,Fa];exact hn.symm) PM rfl),pm (AZ (I:=I) (t:=7) (k:=42) (E:=[(5,.t (slI 1 ((At L).map (Ah)))),(6,.t (slI 3 ((AG L).map (Av))))]) (B:=[]) (nx:=50) (T:=4) (sz:=1) (n:=n) ((Ck L).map Bq) rfl (by rw[List.length_map,GC];exact hn.symm) Uw rfl)]
theorem Dx (L:List Nd):Be L 0=[]:=by unfold Be;rw[M0];rfl
theorem C7 {L:List Nd}{i j:Nat}(h:(tat L i).par=(j:Int))(hj:j < i):Be L i=Be L j++[dcn (tat L i)]:=by unfold Be;rw[M1 h hj,List.reverse_cons]
theorem Hu (L:List Nd)(i:Nat):(Be L i).length≤i:=by unfold Be;rw[List.length_reverse];exact KC L i
theorem ML (p d:CT):Sp Tryz.prog I 76 [p,d,ci 0] (.cv (.one (.z))):=sr 22 [pa]
abbrev R2 (D:List De):Ent:=⟨101,some (3,D.length),Aa (D.map Av)⟩
theorem VX (L:List Nd)(hl:L.length≤1000000) : ∀ i:Nat,0 < i→i < L.length→Dn L i→SpM Tryz.prog I 76 [] [R3 L,Su L,ci (i:Int)] [(2,some (R2 (Be L i)))] (.s 2):=by
 intro i;induction i using Nat.strongRecOn with
 | _ i ih =>
  intro h0 hi hD;obtain ⟨j,hj,hlt⟩:=hD.nat h0 (Nat.le_refl _);have hpa:=JY hi;rw[hj] at hpa;have hdl:=Hu L j;rw[C7 hj hlt,←Kx hi];by_cases hj0:j=0
  ·subst hj0
   rw[Dx];have hr:=ML (I:=I) (R3 L) (Su L);rw[show (0:Int)=iat (At L) i from hpa.symm] at hr;exact sm 22 [pk (Lp 3 (i:Int) 0),pk (Aj 40 3 1 ((At L).map (Ah)) i (i:Int) (Ah (iat (At L) i)) (Az (by rw[Dp];exact hi))),po (hr),pk (Aj 110 101 3 ((AG L).map (Av)) i (i:Int) (Av (dat (AG L) i)) (Bb (by rw[Fa];exact hi))),⟨.ap 0 1 24,⟨by omega,by simp only[maxLen];omega⟩⟩,pm ((show Leads I _ ⟨[(6,.s 18)],[(18,some ⟨101,some (3,1),[.i ((dat (AG L) i).1),.i ((dat (AG L) i).2.1),.o ((dat (AG L) i).2.2)]⟩)],20⟩ ⟨[(6,.s 2)],[(2,some ⟨101,some (3,1),[.i ((dat (AG L) i).1),.i ((dat (AG L) i).2.1),.o ((dat (AG L) i).2.2)]⟩)],20⟩ from AN [(2,18)] ⟨rfl,TVle.refl,trivial⟩ ⟨rfl,rfl,rfl,ILe.refl,trivial⟩))]
  ·have hr:=ih j hlt (by omega) (by omega) (fun x h1 h2=>hD x h1 (by omega))
   rw[←hpa] at hr;generalize Be L j=D at *;unfold R2;rw[List.length_append];exact sm 22 [pk (Lp 3 (i:Int) 0),pk (Aj 40 3 1 ((At L).map (Ah)) i (i:Int) (Ah (iat (At L) i)) (Az (by rw[Dp];exact hi))),pom [] (hr),pk (Aj 110 101 3 ((AG L).map (Av)) i (i:Int) (Av (dat (AG L) i)) (Bb (by rw[Fa];exact hi))),⟨.ap D.length 1 24,⟨by omega,by simp only[maxLen];omega⟩⟩,pm ((show Leads I _ ⟨[(6,.s 18)],[(18,some ⟨101,some (3,D.length+1),(Aa ((D).map Av))++([.i ((dat (AG L) i).1),.i ((dat (AG L) i).2.1),.o ((dat (AG L) i).2.2)])⟩)],20⟩ ⟨[(6,.s 2)],[(2,some ⟨101,some (3,D.length+1),Aa ((D++[(dat (AG L) i)]).map Av)⟩)],20⟩ from AN [(2,18)] ⟨rfl,TVle.refl,trivial⟩ ⟨rfl,rfl,rfl,ILe.eq (show (Aa ((D).map Av))++([.i ((dat (AG L) i).1),.i ((dat (AG L) i).2.1),.o ((dat (AG L) i).2.2)])=Aa ((D++[(dat (AG L) i)]).map Av) from (by rw[List.map_append,CF];rfl)),trivial⟩))]
theorem Ad4 {sz:Nat}:TVle (.cv (.one (.z))) (tit (slI sz [])):=fun N w g v hl=>by
 have hl:[v]=[.slice none 0 0]:=hl;injection hl with hl;subst hl;exact ⟨none,0,rfl,Nat.le_refl _,by simp[maxLen],fun h=>absurd rfl h⟩
theorem MM (L:List Nd)(hl:L.length≤1000000)(i:Nat)(hi:i < L.length)(hD:Dn L i):Sp Tryz.prog I 76 [R3 L,Su L,ci (i:Int)] (tit (deI (Be L i))):=by
 by_cases h0:i=0
 ·subst h0
  rw[Dx];exact (ML (R3 L) (Su L)).rs Ad4
 ·exact (VX L hl i (by omega) hi hD).freeze (by rw[List.length_map]) PM rfl
end
theorem Z5 {D:List De}{i:Nat}{b:Bool}(h:i < D.length)(hb:(dat D i).2.2=b):(D.map Av)[i]? = some [.lit (.int .i64 (dat D i).1),.lit (.int .i64 (dat D i).2.1),.lit (.bool b)]:=by rw[←hb];exact Bb h
theorem Ln {D:List Bool}{i:Nat}{b:Bool}(h:i < D.length)(hb:bat D i=b):(D.map Bq)[i]? = some [.lit (.bool b)]:=by rw[←hb];exact Ack h
section
variable {I:WInv}{c c':Bool}
theorem Xq (x:De):Sp Tryz.prog I 155 [.ag (dcl x)] (lb (decide (x=(0,0,false)))):=by
 by_cases h1:x.1=0
 ·by_cases h2:x.2.1=0
  ·obtain ⟨a,b,t⟩:=x
   cases t with
   | true =>
    rw[show decide ((a,b,true)=(0,0,false))=false by simp]
    exact sr 16 [pk (AT 3 a 0 true (decide_eq_true h1)),pk (AT 3 b 0 true (decide_eq_true h2)),pa]
   | false =>
    rw[show decide ((a,b,false)=(0,0,false))=true by simp at h1 h2 ⊢;exact ⟨h1,h2⟩]
    exact sr 16 [pk (AT 3 a 0 true (decide_eq_true h1)),pk (AT 3 b 0 true (decide_eq_true h2)),pa]
  ·rw[show decide (x=(0,0,false))=false from decide_eq_false fun h=>h2 (by rw[h])]
   exact sr 16 [pk (AT 3 x.1 0 true (decide_eq_true h1)),pk (AT 3 x.2.1 0 false (decide_eq_false h2))]
 ·rw[show decide (x=(0,0,false))=false from decide_eq_false fun h=>h1 (by rw[h])]
  exact sr 16 [pk (AT 3 x.1 0 false (decide_eq_false h1))]
def MX (L:List Nd)(n:Nat)(C:List Int)(i:Int):Go.Proofs.YtdgbealknnmkoaaGreatDoor.St:=⟨[(0,.t (slI 1 ((At L).map (Ah)))),(1,.t (slI 3 ((AG L).map (Av)))),(2,.t (slI 1 ((Ck L).map (Bq)))),(7,.i (n:Int)),(8,.s 25),(9,.i i)],[(25,some ⟨3,some (1,n),Aa ((C).map Ah)⟩)],50⟩
def Rx (nx:Nat):Go.Proofs.YtdgbealknnmkoaaGreatDoor.St:=⟨[(6,lb false)],[],nx⟩
theorem GM (L : List Nd) (n : Nat) (hn : L.length = n) (m : Nat) (hm : 2 * m + 2 < n) (hl : n ≤ 2002) :
  (prB L m=true→Rnd Tryz.prog I 192 (AQ Tryz.prog 114 0) (MX L n (clt L m) (2*(m:Int)+1)) .normal (MX L n (clt L (m+1)) (2*((m+1:Nat):Int)+1))) ∧
  (prB L m=false→Rnd Tryz.prog I 192 (AQ Tryz.prog 114 0) (MX L n (clt L m) (2*(m:Int)+1)) .ret (Rx 50)):=by
 have e1:2*m+1 < (At L).length:=by rw[Dp];omega
 have e2:2*m+2 < (At L).length:=by rw[Dp];omega
 have f1:2*m+1 < (AG L).length:=by rw[Fa];omega
 have f2:2*m+2 < (AG L).length:=by rw[Fa];omega
 have hlp:=Dp L;have g1:=JY (L:=L) (i:=2*m+1) (by omega)
 have g2:=JY (L:=L) (i:=2*m+2) (by omega)
 have d1:=Kx (L:=L) (i:=2*m+1) (by omega)
 have d2:=Kx (L:=L) (i:=2*m+2) (by omega)
 have a1:(dat (AG L) (2*m+1)).1=(tat L (2*m+1)).fst:=by rw[d1];rfl
 have a2:(dat (AG L) (2*m+1)).2.1=(tat L (2*m+1)).nxt:=by rw[d1];rfl
 have b1:(dat (AG L) (2*m+2)).1=(tat L (2*m+2)).fst:=by rw[d2];rfl
 have b2:(dat (AG L) (2*m+2)).2.1=(tat L (2*m+2)).nxt:=by rw[d2];rfl
 have a3:(dat (AG L) (2*m+1)).2.2=(tat L (2*m+1)).tog:=by rw[d1];rfl
 have b3:(dat (AG L) (2*m+2)).2.2=(tat L (2*m+2)).tog:=by rw[d2];rfl
 by_cases p1:(tat L (2*m+1)).par=(tat L (2*m+2)).par
 ·by_cases p2 : (tat L (2 * m + 1)).par < 0
  ·refine ⟨fun h=>absurd h (by unfold prB;simp;omega),fun _ => ?_⟩
   exact rr [pk (Al 3 (2*(m:Int)+1) (n:Int)),pk (Aj 110 101 3 ((AG L).map (Av)) (2*m+1) (2*(m:Int)+1) (Av (dat (AG L) (2*m+1))) (Bb f1)),pk (AA 3 (2*(m:Int)+1) 1 ⟨by omega,by omega⟩),pk (Aj 110 101 3 ((AG L).map (Av)) (2*m+2) ((2*(m:Int)+1)+1) (Av (dat (AG L) (2*m+2))) (Bb f2)),pk (Aj 40 3 1 ((At L).map (Ah)) (2*m+1) (2*(m:Int)+1) (Ah (iat (At L) (2*m+1))) (Az e1)),pk (AA 3 (2*(m:Int)+1) 1 ⟨by omega,by omega⟩),pk (Aj 40 3 1 ((At L).map (Ah)) (2*m+2) ((2*(m:Int)+1)+1) (Ah (iat (At L) (2*m+2))) (Az e2)),pk (As 3 (iat (At L) (2*m+1)) (iat (At L) (2*m+2))),pk (Aj 40 3 1 ((At L).map (Ah)) (2*m+1) (2*(m:Int)+1) (Ah (iat (At L) (2*m+1))) (Az e1)),pk (Al 3 (iat (At L) (2*m+1)) 0)]
  ·by_cases p3 : 2 * (m : Int) + 1 ≤ (tat L (2 * m + 1)).par
   ·refine ⟨fun h=>absurd h (by unfold prB;simp;omega),fun _ => ?_⟩
    exact rr [pk (Al 3 (2*(m:Int)+1) (n:Int)),pk (Aj 110 101 3 ((AG L).map (Av)) (2*m+1) (2*(m:Int)+1) (Av (dat (AG L) (2*m+1))) (Bb f1)),pk (AA 3 (2*(m:Int)+1) 1 ⟨by omega,by omega⟩),pk (Aj 110 101 3 ((AG L).map (Av)) (2*m+2) ((2*(m:Int)+1)+1) (Av (dat (AG L) (2*m+2))) (Bb f2)),pk (Aj 40 3 1 ((At L).map (Ah)) (2*m+1) (2*(m:Int)+1) (Ah (iat (At L) (2*m+1))) (Az e1)),pk (AA 3 (2*(m:Int)+1) 1 ⟨by omega,by omega⟩),pk (Aj 40 3 1 ((At L).map (Ah)) (2*m+2) ((2*(m:Int)+1)+1) (Ah (iat (At L) (2*m+2))) (Az e2)),pk (As 3 (iat (At L) (2*m+1)) (iat (At L) (2*m+2))),pk (Aj 40 3 1 ((At L).map (Ah)) (2*m+1) (2*(m:Int)+1) (Ah (iat (At L) (2*m+1))) (Az e1)),pk (Ai 3 (iat (At L) (2*m+1)) 0),pk (Aj 40 3 1 ((At L).map (Ah)) (2*m+1) (2*(m:Int)+1) (Ah (iat (At L) (2*m+1))) (Az e1)),pk (Bx 3 (iat (At L) (2*m+1)) (2*(m:Int)+1))]
   ·have hpp : (tat L (2 * m + 1)).par = ((pp L m : Nat) : Int) := by unfold pp; omega
    have cp:pp L m < (clt L m).length:=by rw[Gu];omega
    have bc:=TO L m (pp L m);by_cases p4:(tat L (2*m+1)).fst=(tat L (2*m+2)).fst
    ·by_cases p5 : (tat L (2 * m + 1)).nxt = (tat L (2 * m + 2)).nxt
     ·by_cases p6 : (tat L (2 * m + 1)).fst < 0
      ·refine ⟨fun h=>absurd h (by unfold prB;simp;omega),fun _ => ?_⟩
       exact rr [pk (Al 3 (2*(m:Int)+1) (n:Int)),pk (Aj 110 101 3 ((AG L).map (Av)) (2*m+1) (2*(m:Int)+1) (Av (dat (AG L) (2*m+1))) (Bb f1)),pk (AA 3 (2*(m:Int)+1) 1 ⟨by omega,by omega⟩),pk (Aj 110 101 3 ((AG L).map (Av)) (2*m+2) ((2*(m:Int)+1)+1) (Av (dat (AG L) (2*m+2))) (Bb f2)),pk (Aj 40 3 1 ((At L).map (Ah)) (2*m+1) (2*(m:Int)+1) (Ah (iat (At L) (2*m+1))) (Az e1)),pk (AA 3 (2*(m:Int)+1) 1 ⟨by omega,by omega⟩),pk (Aj 40 3 1 ((At L).map (Ah)) (2*m+2) ((2*(m:Int)+1)+1) (Ah (iat (At L) (2*m+2))) (Az e2)),pk (As 3 (iat (At L) (2*m+1)) (iat (At L) (2*m+2))),pk (Aj 40 3 1 ((At L).map (Ah)) (2*m+1) (2*(m:Int)+1) (Ah (iat (At L) (2*m+1))) (Az e1)),pk (Ai 3 (iat (At L) (2*m+1)) 0),pk (Aj 40 3 1 ((At L).map (Ah)) (2*m+1) (2*(m:Int)+1) (Ah (iat (At L) (2*m+1))) (Az e1)),pk (By 3 (iat (At L) (2*m+1)) (2*(m:Int)+1)),pk (As 3 ((dat (AG L) (2*m+1)).1) ((dat (AG L) (2*m+2)).1)),pk (As 3 ((dat (AG L) (2*m+1)).2.1) ((dat (AG L) (2*m+2)).2.1)),pk (Al 3 ((dat (AG L) (2*m+1)).1) 0)]
      ·by_cases p7 : (tat L (2 * m + 1)).nxt < 0
       ·refine ⟨fun h=>absurd h (by unfold prB;simp;omega),fun _ => ?_⟩
        exact rr [pk (Al 3 (2*(m:Int)+1) (n:Int)),pk (Aj 110 101 3 ((AG L).map (Av)) (2*m+1) (2*(m:Int)+1) (Av (dat (AG L) (2*m+1))) (Bb f1)),pk (AA 3 (2*(m:Int)+1) 1 ⟨by omega,by omega⟩),pk (Aj 110 101 3 ((AG L).map (Av)) (2*m+2) ((2*(m:Int)+1)+1) (Av (dat (AG L) (2*m+2))) (Bb f2)),pk (Aj 40 3 1 ((At L).map (Ah)) (2*m+1) (2*(m:Int)+1) (Ah (iat (At L) (2*m+1))) (Az e1)),pk (AA 3 (2*(m:Int)+1) 1 ⟨by omega,by omega⟩),pk (Aj 40 3 1 ((At L).map (Ah)) (2*m+2) ((2*(m:Int)+1)+1) (Ah (iat (At L) (2*m+2))) (Az e2)),pk (As 3 (iat (At L) (2*m+1)) (iat (At L) (2*m+2))),pk (Aj 40 3 1 ((At L).map (Ah)) (2*m+1) (2*(m:Int)+1) (Ah (iat (At L) (2*m+1))) (Az e1)),pk (Ai 3 (iat (At L) (2*m+1)) 0),pk (Aj 40 3 1 ((At L).map (Ah)) (2*m+1) (2*(m:Int)+1) (Ah (iat (At L) (2*m+1))) (Az e1)),pk (By 3 (iat (At L) (2*m+1)) (2*(m:Int)+1)),pk (As 3 ((dat (AG L) (2*m+1)).1) ((dat (AG L) (2*m+2)).1)),pk (As 3 ((dat (AG L) (2*m+1)).2.1) ((dat (AG L) (2*m+2)).2.1)),pk (Ai 3 ((dat (AG L) (2*m+1)).1) 0),pk (Al 3 ((dat (AG L) (2*m+1)).2.1) 0)]
       ·by_cases p8 : (tat L (2 * m + 1)).fst = (tat L (2 * m + 1)).nxt
        ·refine ⟨fun h=>absurd h (by unfold prB;simp;omega),fun _ => ?_⟩
         exact rr [pk (Al 3 (2*(m:Int)+1) (n:Int)),pk (Aj 110 101 3 ((AG L).map (Av)) (2*m+1) (2*(m:Int)+1) (Av (dat (AG L) (2*m+1))) (Bb f1)),pk (AA 3 (2*(m:Int)+1) 1 ⟨by omega,by omega⟩),pk (Aj 110 101 3 ((AG L).map (Av)) (2*m+2) ((2*(m:Int)+1)+1) (Av (dat (AG L) (2*m+2))) (Bb f2)),pk (Aj 40 3 1 ((At L).map (Ah)) (2*m+1) (2*(m:Int)+1) (Ah (iat (At L) (2*m+1))) (Az e1)),pk (AA 3 (2*(m:Int)+1) 1 ⟨by omega,by omega⟩),pk (Aj 40 3 1 ((At L).map (Ah)) (2*m+2) ((2*(m:Int)+1)+1) (Ah (iat (At L) (2*m+2))) (Az e2)),pk (As 3 (iat (At L) (2*m+1)) (iat (At L) (2*m+2))),pk (Aj 40 3 1 ((At L).map (Ah)) (2*m+1) (2*(m:Int)+1) (Ah (iat (At L) (2*m+1))) (Az e1)),pk (Ai 3 (iat (At L) (2*m+1)) 0),pk (Aj 40 3 1 ((At L).map (Ah)) (2*m+1) (2*(m:Int)+1) (Ah (iat (At L) (2*m+1))) (Az e1)),pk (By 3 (iat (At L) (2*m+1)) (2*(m:Int)+1)),pk (As 3 ((dat (AG L) (2*m+1)).1) ((dat (AG L) (2*m+2)).1)),pk (As 3 ((dat (AG L) (2*m+1)).2.1) ((dat (AG L) (2*m+2)).2.1)),pk (Ai 3 ((dat (AG L) (2*m+1)).1) 0),pk (Ai 3 ((dat (AG L) (2*m+1)).2.1) 0),pk (Am 3 ((dat (AG L) (2*m+1)).1) ((dat (AG L) (2*m+1)).2.1))]
        ·cases p9:(tat L (2*m+1)).tog with
         | false =>
          have ta:=a3.trans p9;refine ⟨fun h=>absurd h (by unfold prB dcn;simp[p9]),fun _ => ?_⟩
          exact rr [pk (Al 3 (2*(m:Int)+1) (n:Int)),pk (Aj 110 101 3 ((AG L).map (Av)) (2*m+1) (2*(m:Int)+1) ([.lit (.int .i64 ((dat (AG L) (2*m+1)).1)),.lit (.int .i64 ((dat (AG L) (2*m+1)).2.1)),.lit (.bool false)]) (Z5 f1 ta)),pk (AA 3 (2*(m:Int)+1) 1 ⟨by omega,by omega⟩),pk (Aj 110 101 3 ((AG L).map (Av)) (2*m+2) ((2*(m:Int)+1)+1) (Av (dat (AG L) (2*m+2))) (Bb f2)),pk (Aj 40 3 1 ((At L).map (Ah)) (2*m+1) (2*(m:Int)+1) (Ah (iat (At L) (2*m+1))) (Az e1)),pk (AA 3 (2*(m:Int)+1) 1 ⟨by omega,by omega⟩),pk (Aj 40 3 1 ((At L).map (Ah)) (2*m+2) ((2*(m:Int)+1)+1) (Ah (iat (At L) (2*m+2))) (Az e2)),pk (As 3 (iat (At L) (2*m+1)) (iat (At L) (2*m+2))),pk (Aj 40 3 1 ((At L).map (Ah)) (2*m+1) (2*(m:Int)+1) (Ah (iat (At L) (2*m+1))) (Az e1)),pk (Ai 3 (iat (At L) (2*m+1)) 0),pk (Aj 40 3 1 ((At L).map (Ah)) (2*m+1) (2*(m:Int)+1) (Ah (iat (At L) (2*m+1))) (Az e1)),pk (By 3 (iat (At L) (2*m+1)) (2*(m:Int)+1)),pk (As 3 ((dat (AG L) (2*m+1)).1) ((dat (AG L) (2*m+2)).1)),pk (As 3 ((dat (AG L) (2*m+1)).2.1) ((dat (AG L) (2*m+2)).2.1)),pk (Ai 3 ((dat (AG L) (2*m+1)).1) 0),pk (Ai 3 ((dat (AG L) (2*m+1)).2.1) 0),pk (Af 3 ((dat (AG L) (2*m+1)).1) ((dat (AG L) (2*m+1)).2.1)),pa]
         | true =>
          have ta:=a3.trans p9;cases p10:(tat L (2*m+2)).tog with
          | true =>
           have tb:=b3.trans p10;refine ⟨fun h=>absurd h (by unfold prB dcn;simp[p10]),fun _ => ?_⟩
           exact rr [pk (Al 3 (2*(m:Int)+1) (n:Int)),pk (Aj 110 101 3 ((AG L).map (Av)) (2*m+1) (2*(m:Int)+1) ([.lit (.int .i64 ((dat (AG L) (2*m+1)).1)),.lit (.int .i64 ((dat (AG L) (2*m+1)).2.1)),.lit (.bool true)]) (Z5 f1 ta)),pk (AA 3 (2*(m:Int)+1) 1 ⟨by omega,by omega⟩),pk (Aj 110 101 3 ((AG L).map (Av)) (2*m+2) ((2*(m:Int)+1)+1) ([.lit (.int .i64 ((dat (AG L) (2*m+2)).1)),.lit (.int .i64 ((dat (AG L) (2*m+2)).2.1)),.lit (.bool true)]) (Z5 f2 tb)),pk (Aj 40 3 1 ((At L).map (Ah)) (2*m+1) (2*(m:Int)+1) (Ah (iat (At L) (2*m+1))) (Az e1)),pk (AA 3 (2*(m:Int)+1) 1 ⟨by omega,by omega⟩),pk (Aj 40 3 1 ((At L).map (Ah)) (2*m+2) ((2*(m:Int)+1)+1) (Ah (iat (At L) (2*m+2))) (Az e2)),pk (As 3 (iat (At L) (2*m+1)) (iat (At L) (2*m+2))),pk (Aj 40 3 1 ((At L).map (Ah)) (2*m+1) (2*(m:Int)+1) (Ah (iat (At L) (2*m+1))) (Az e1)),pk (Ai 3 (iat (At L) (2*m+1)) 0),pk (Aj 40 3 1 ((At L).map (Ah)) (2*m+1) (2*(m:Int)+1) (Ah (iat (At L) (2*m+1))) (Az e1)),pk (By 3 (iat (At L) (2*m+1)) (2*(m:Int)+1)),pk (As 3 ((dat (AG L) (2*m+1)).1) ((dat (AG L) (2*m+2)).1)),pk (As 3 ((dat (AG L) (2*m+1)).2.1) ((dat (AG L) (2*m+2)).2.1)),pk (Ai 3 ((dat (AG L) (2*m+1)).1) 0),pk (Ai 3 ((dat (AG L) (2*m+1)).2.1) 0),pk (Af 3 ((dat (AG L) (2*m+1)).1) ((dat (AG L) (2*m+1)).2.1)),pa]
          | false =>
           have tb:=b3.trans p10;refine ⟨fun _ => ?_,fun h=>absurd h (by unfold prB dcn;simp[p9,p10,←p1,←p4,←p5];omega)⟩
           have r:Rnd Tryz.prog I 192 (AQ Tryz.prog 114 0) (MX L n (clt L m) (2*(m:Int)+1)) .normal (MX L n (clt L (m+1)) (2*(m:Int)+1+2)):=by
            have e:clt L (m+1)=(clt L m).set (pp L m) (iat (clt L m) (pp L m)+2):=rfl;rw[e];exact Rnd.nam [] (show Rnd _ _ _ _ _ _ ⟨[(0,.t (slI 1 ((At L).map (Ah)))),(1,.t (slI 3 ((AG L).map (Av)))),(2,.t (slI 1 ((Ck L).map (Bq)))),(7,.i (n:Int)),(8,.s 25),(9,.i ((2*(m:Int)+1)+2))],[(25,some ⟨3,some (1,n),Aa (((clt L m).set (pp L m) ((iat (clt L m) (pp L m))+2)).map Ah)⟩)],144⟩ from rr [pk (Al 3 (2*(m:Int)+1) (n:Int)),pk (Aj 110 101 3 ((AG L).map (Av)) (2*m+1) (2*(m:Int)+1) ([.lit (.int .i64 ((dat (AG L) (2*m+1)).1)),.lit (.int .i64 ((dat (AG L) (2*m+1)).2.1)),.lit (.bool true)]) (Z5 f1 ta)),pk (AA 3 (2*(m:Int)+1) 1 ⟨by omega,by omega⟩),pk (Aj 110 101 3 ((AG L).map (Av)) (2*m+2) ((2*(m:Int)+1)+1) ([.lit (.int .i64 ((dat (AG L) (2*m+2)).1)),.lit (.int .i64 ((dat (AG L) (2*m+2)).2.1)),.lit (.bool false)]) (Z5 f2 tb)),pk (Aj 40 3 1 ((At L).map (Ah)) (2*m+1) (2*(m:Int)+1) (Ah (iat (At L) (2*m+1))) (Az e1)),pk (AA 3 (2*(m:Int)+1) 1 ⟨by omega,by omega⟩),pk (Aj 40 3 1 ((At L).map (Ah)) (2*m+2) ((2*(m:Int)+1)+1) (Ah (iat (At L) (2*m+2))) (Az e2)),pk (As 3 (iat (At L) (2*m+1)) (iat (At L) (2*m+2))),pk (Aj 40 3 1 ((At L).map (Ah)) (2*m+1) (2*(m:Int)+1) (Ah (iat (At L) (2*m+1))) (Az e1)),pk (Ai 3 (iat (At L) (2*m+1)) 0),pk (Aj 40 3 1 ((At L).map (Ah)) (2*m+1) (2*(m:Int)+1) (Ah (iat (At L) (2*m+1))) (Az e1)),pk (By 3 (iat (At L) (2*m+1)) (2*(m:Int)+1)),pk (As 3 ((dat (AG L) (2*m+1)).1) ((dat (AG L) (2*m+2)).1)),pk (As 3 ((dat (AG L) (2*m+1)).2.1) ((dat (AG L) (2*m+2)).2.1)),pk (Ai 3 ((dat (AG L) (2*m+1)).1) 0),pk (Ai 3 ((dat (AG L) (2*m+1)).2.1) 0),pk (Af 3 ((dat (AG L) (2*m+1)).1) ((dat (AG L) (2*m+1)).2.1)),pa,pk (Aj 40 3 1 ((At L).map (Ah)) (2*m+1) (2*(m:Int)+1) (Ah (iat (At L) (2*m+1))) (Az e1)),⟨.ix (iat (At L) (2*m+1)) (pp L m) n,⟨by omega,by omega⟩⟩,⟨.part (Aa ((clt L m).map Ah)) ((pp L m)*1) 1 [.i (iat (clt L m) (pp L m))],(Un (D:=clt L m) cp)⟩,pk (AA 3 (iat (clt L m) (pp L m)) 2 ⟨by omega,by omega⟩),⟨.ix (iat (At L) (2*m+1)) (pp L m) n,⟨by omega,by omega⟩⟩,⟨.upd (Aa ((clt L m).map Ah)) ((pp L m)*1) [.i ((iat (clt L m) (pp L m))+2)] (Aa (((clt L m).set (pp L m) ((iat (clt L m) (pp L m))+2)).map Ah)),(Aa5 (D:=clt L m) cp ((iat (clt L m) (pp L m))+2))⟩,pk (AA 3 (2*(m:Int)+1) 2 ⟨by omega,by omega⟩)]) (t:=⟨[(0,.t (slI 1 ((At L).map (Ah)))),(1,.t (slI 3 ((AG L).map (Av)))),(2,.t (slI 1 ((Ck L).map (Bq)))),(7,.i (n:Int)),(8,.s 25),(9,.i ((2*(m:Int)+1)+2))],[(25,some ⟨3,some (1,n),Aa (((clt L m).set (pp L m) ((iat (clt L m) (pp L m))+2)).map Ah)⟩)],50⟩) ⟨rfl,TVle.refl,rfl,TVle.refl,rfl,TVle.refl,rfl,TVle.refl,rfl,TVle.refl,rfl,TVle.refl,trivial⟩ ⟨rfl,rfl,rfl,ILe.refl,trivial⟩
           rw[show 2*(m:Int)+1+2=2*((m+1:Nat):Int)+1 by omega] at r
           exact r
     ·refine ⟨fun h=>absurd h (by unfold prB dcn;simp;omega),fun _ => ?_⟩
      exact rr [pk (Al 3 (2*(m:Int)+1) (n:Int)),pk (Aj 110 101 3 ((AG L).map (Av)) (2*m+1) (2*(m:Int)+1) (Av (dat (AG L) (2*m+1))) (Bb f1)),pk (AA 3 (2*(m:Int)+1) 1 ⟨by omega,by omega⟩),pk (Aj 110 101 3 ((AG L).map (Av)) (2*m+2) ((2*(m:Int)+1)+1) (Av (dat (AG L) (2*m+2))) (Bb f2)),pk (Aj 40 3 1 ((At L).map (Ah)) (2*m+1) (2*(m:Int)+1) (Ah (iat (At L) (2*m+1))) (Az e1)),pk (AA 3 (2*(m:Int)+1) 1 ⟨by omega,by omega⟩),pk (Aj 40 3 1 ((At L).map (Ah)) (2*m+2) ((2*(m:Int)+1)+1) (Ah (iat (At L) (2*m+2))) (Az e2)),pk (As 3 (iat (At L) (2*m+1)) (iat (At L) (2*m+2))),pk (Aj 40 3 1 ((At L).map (Ah)) (2*m+1) (2*(m:Int)+1) (Ah (iat (At L) (2*m+1))) (Az e1)),pk (Ai 3 (iat (At L) (2*m+1)) 0),pk (Aj 40 3 1 ((At L).map (Ah)) (2*m+1) (2*(m:Int)+1) (Ah (iat (At L) (2*m+1))) (Az e1)),pk (By 3 (iat (At L) (2*m+1)) (2*(m:Int)+1)),pk (As 3 ((dat (AG L) (2*m+1)).1) ((dat (AG L) (2*m+2)).1)),pk (AO 3 ((dat (AG L) (2*m+1)).2.1) ((dat (AG L) (2*m+2)).2.1))]
    ·refine ⟨fun h=>absurd h (by unfold prB dcn;simp;omega),fun _ => ?_⟩
     exact rr [pk (Al 3 (2*(m:Int)+1) (n:Int)),pk (Aj 110 101 3 ((AG L).map (Av)) (2*m+1) (2*(m:Int)+1) (Av (dat (AG L) (2*m+1))) (Bb f1)),pk (AA 3 (2*(m:Int)+1) 1 ⟨by omega,by omega⟩),pk (Aj 110 101 3 ((AG L).map (Av)) (2*m+2) ((2*(m:Int)+1)+1) (Av (dat (AG L) (2*m+2))) (Bb f2)),pk (Aj 40 3 1 ((At L).map (Ah)) (2*m+1) (2*(m:Int)+1) (Ah (iat (At L) (2*m+1))) (Az e1)),pk (AA 3 (2*(m:Int)+1) 1 ⟨by omega,by omega⟩),pk (Aj 40 3 1 ((At L).map (Ah)) (2*m+2) ((2*(m:Int)+1)+1) (Ah (iat (At L) (2*m+2))) (Az e2)),pk (As 3 (iat (At L) (2*m+1)) (iat (At L) (2*m+2))),pk (Aj 40 3 1 ((At L).map (Ah)) (2*m+1) (2*(m:Int)+1) (Ah (iat (At L) (2*m+1))) (Az e1)),pk (Ai 3 (iat (At L) (2*m+1)) 0),pk (Aj 40 3 1 ((At L).map (Ah)) (2*m+1) (2*(m:Int)+1) (Ah (iat (At L) (2*m+1))) (Az e1)),pk (By 3 (iat (At L) (2*m+1)) (2*(m:Int)+1)),pk (AO 3 ((dat (AG L) (2*m+1)).1) ((dat (AG L) (2*m+2)).1))]
 ·refine ⟨fun h=>absurd h (by unfold prB;simp[p1]),fun _ => ?_⟩
  exact rr [pk (Al 3 (2*(m:Int)+1) (n:Int)),pk (Aj 110 101 3 ((AG L).map (Av)) (2*m+1) (2*(m:Int)+1) (Av (dat (AG L) (2*m+1))) (Bb f1)),pk (AA 3 (2*(m:Int)+1) 1 ⟨by omega,by omega⟩),pk (Aj 110 101 3 ((AG L).map (Av)) (2*m+2) ((2*(m:Int)+1)+1) (Av (dat (AG L) (2*m+2))) (Bb f2)),pk (Aj 40 3 1 ((At L).map (Ah)) (2*m+1) (2*(m:Int)+1) (Ah (iat (At L) (2*m+1))) (Az e1)),pk (AA 3 (2*(m:Int)+1) 1 ⟨by omega,by omega⟩),pk (Aj 40 3 1 ((At L).map (Ah)) (2*m+2) ((2*(m:Int)+1)+1) (Ah (iat (At L) (2*m+2))) (Az e2)),pk (AO 3 (iat (At L) (2*m+1)) (iat (At L) (2*m+2)))]
end
def QO (D:List De)(k j:Nat):Bool:=decide ((dat D k).1=(dat D j).1)&&decide ((dat D k).2.1=(dat D j).2.1)
def inC (D:List De)(k j:Nat):Int:=if QO D k j then 1 else 0
def miC (D:List De)(k:Nat):Int:=AU (inC D k) k 0
def cpC (L:List Nd)(i:Nat):Int:=if 2 < iat (clt L (L.length / 2)) i then 1 else if decide ((tat L i).st=1)=decide (iat (clt L (L.length / 2)) i=2) then 0 else 1
def ouC (L:List Nd)(i:Nat):Int:=if cpC L i≠0 then cpC L i else if 32 < (Be L i).length then 1 else AU (miC (Be L i)) (Be L i).length 0
section
variable {I:WInv}{c c':Bool}
def AdJ (L:List Nd)(n:Nat)(i:Nat)(D:List De)(k:Nat)(j:Int):Go.Proofs.YtdgbealknnmkoaaGreatDoor.St:=⟨[(0,.t (slI 1 ((At L).map (Ah)))),(1,.t (slI 3 ((AG L).map (Av)))),(2,.t (slI 1 ((Ck L).map (Bq)))),(7,.i (n:Int)),(8,.t (slI 1 ((clt L (L.length / 2)).map (Ah)))),(12,.i (i:Int)),(13,.t (slI 3 ((D).map (Av)))),(14,.i (k:Int)),(15,.i j)],[],130⟩
def AeH (L:List Nd)(n:Nat)(i:Nat)(D:List De)(k:Nat):Go.Proofs.YtdgbealknnmkoaaGreatDoor.St:=⟨[(0,.t (slI 1 ((At L).map (Ah)))),(1,.t (slI 3 ((AG L).map (Av)))),(2,.t (slI 1 ((Ck L).map (Bq)))),(7,.i (n:Int)),(8,.t (slI 1 ((clt L (L.length / 2)).map (Ah)))),(12,.i (i:Int)),(13,.t (slI 3 ((D).map (Av)))),(14,.i (k:Int))],[],130⟩
theorem Ab5 {D:List De}{k j:Nat}(h:inC D k j≠0):QO D k j=true:=by
 unfold inC at h;cases hs:QO D k j with
 | true=>rfl
 | false=>rw[hs] at h;exact absurd rfl h
theorem Zj {D:List De}{k j:Nat}(h:inC D k j=0):QO D k j=false:=by
 unfold inC at h;cases hs:QO D k j with
 | false=>rfl
 | true=>rw[hs] at h;exact absurd h (by decide)
theorem UL (L:List Nd)(n:Nat)(i:Nat)(D:List De)(k:Nat)(hk:k < D.length)(hl:D.length≤100000) :
  (miC D k=0→LoopTr Tryz.prog I 192 (AQ Tryz.prog 114 3) (AdJ L n i D k ((0:Nat):Int)) (.exit 6) (AeH L n i D k))∧(miC D k≠0→LoopTr Tryz.prog I 192 (AQ Tryz.prog 114 3) (AdJ L n i D k ((0:Nat):Int)) .ret (Rx 130)):=by
 refine Di (inC D k) k (fun j=>AdJ L n i D k (j:Int)) (fun _=>Rx 130) (fun j hj hc => ?_) ?_ (fun j hj hc => ?_)
 ·have hs:=Zj hc
  unfold QO at hs;have hj':j < D.length:=by omega
  by_cases h1:(dat D k).1=(dat D j).1
  ·by_cases h2:(dat D k).2.1=(dat D j).2.1
   ·rw[decide_eq_true h1,decide_eq_true h2] at hs;cases hs
   ·have hj:=hj'
    exact rr [pk (Al 3 (j:Int) (k:Int)),pk (Aj 110 101 3 ((D).map (Av)) k (k:Int) (Av (dat D k)) (Bb hk)),pk (Aj 110 101 3 ((D).map (Av)) j (j:Int) (Av (dat D j)) (Bb hj)),pk (AT 3 ((dat D k).1) ((dat D j).1) true (decide_eq_true h1)),pk (Aj 110 101 3 ((D).map (Av)) k (k:Int) (Av (dat D k)) (Bb hk)),pk (Aj 110 101 3 ((D).map (Av)) j (j:Int) (Av (dat D j)) (Bb hj)),pk (AT 3 ((dat D k).2.1) ((dat D j).2.1) false (decide_eq_false h2)),pk (AA 3 (j:Int) 1 ⟨by omega,by omega⟩)]
  ·have hj:=hj'
   exact rr [pk (Al 3 (j:Int) (k:Int)),pk (Aj 110 101 3 ((D).map (Av)) k (k:Int) (Av (dat D k)) (Bb hk)),pk (Aj 110 101 3 ((D).map (Av)) j (j:Int) (Av (dat D j)) (Bb hj)),pk (AT 3 ((dat D k).1) ((dat D j).1) false (decide_eq_false h1)),pk (AA 3 (j:Int) 1 ⟨by omega,by omega⟩)]
 ·exact rr [pk (Ai 3 (k:Int) (k:Int))]
 ·have hs:=Ab5 hc
  unfold QO at hs;rw[Bool.and_eq_true,decide_eq_true_eq,decide_eq_true_eq] at hs;obtain ⟨h1,h2⟩:=hs;have hj':j < D.length:=by omega
  have hj:=hj';exact rr [pk (Al 3 (j:Int) (k:Int)),pk (Aj 110 101 3 ((D).map (Av)) k (k:Int) (Av (dat D k)) (Bb hk)),pk (Aj 110 101 3 ((D).map (Av)) j (j:Int) (Av (dat D j)) (Bb hj)),pk (AT 3 ((dat D k).1) ((dat D j).1) true (decide_eq_true h1)),pk (Aj 110 101 3 ((D).map (Av)) k (k:Int) (Av (dat D k)) (Bb hk)),pk (Aj 110 101 3 ((D).map (Av)) j (j:Int) (Av (dat D j)) (Bb hj)),pk (AT 3 ((dat D k).2.1) ((dat D j).2.1) true (decide_eq_true h2))]
def AdD (L:List Nd)(n:Nat)(i:Nat)(D:List De)(k:Int):Go.Proofs.YtdgbealknnmkoaaGreatDoor.St:=⟨[(0,.t (slI 1 ((At L).map (Ah)))),(1,.t (slI 3 ((AG L).map (Av)))),(2,.t (slI 1 ((Ck L).map (Bq)))),(7,.i (n:Int)),(8,.t (slI 1 ((clt L (L.length / 2)).map (Ah)))),(12,.i (i:Int)),(13,.t (slI 3 ((D).map (Av)))),(14,.i k)],[],90⟩
def AeB (L:List Nd)(n:Nat)(i:Nat)(D:List De):Go.Proofs.YtdgbealknnmkoaaGreatDoor.St:=⟨[(0,.t (slI 1 ((At L).map (Ah)))),(1,.t (slI 3 ((AG L).map (Av)))),(2,.t (slI 1 ((Ck L).map (Bq)))),(7,.i (n:Int)),(8,.t (slI 1 ((clt L (L.length / 2)).map (Ah)))),(12,.i (i:Int)),(13,.t (slI 3 ((D).map (Av))))],[],90⟩
theorem UI (L:List Nd)(n:Nat)(i:Nat)(D:List De)(hl:D.length≤100000) :
  (AU (miC D) D.length 0=0→LoopTr Tryz.prog I 192 (AQ Tryz.prog 114 2) (AdD L n i D ((0:Nat):Int)) (.exit 4) (AeB L n i D))∧(AU (miC D) D.length 0≠0→LoopTr Tryz.prog I 192 (AQ Tryz.prog 114 2) (AdD L n i D ((0:Nat):Int)) .ret (Rx 130)):=by
 refine Di (miC D) D.length (fun k=>AdD L n i D (k:Int)) (fun _=>Rx 130) (fun k hk hc => ?_) ?_ (fun k hk hc => ?_)
 ·have lo:=(UL (I:=I) L n i D k hk hl).1 hc
  exact rr [pk (AK 110 101 3 3 ((D).map (Av)) ((D).length:Int)),pk (Al 3 (k:Int) ((D).length:Int)),pl (lo),pk (AA 3 (k:Int) 1 ⟨by omega,by omega⟩)]
 ·exact rr [pk (AK 110 101 3 3 ((D).map (Av)) ((D).length:Int)),pk (Ai 3 (D.length:Int) ((D).length:Int))]
 ·have lo:=(UL (I:=I) L n i D k hk hl).2 hc
  exact rr [pk (AK 110 101 3 3 ((D).map (Av)) ((D).length:Int)),pk (Al 3 (k:Int) ((D).length:Int)),pl (lo)]
def Abi (L:List Nd)(n:Nat)(i:Int):Go.Proofs.YtdgbealknnmkoaaGreatDoor.St:=⟨[(0,.t (slI 1 ((At L).map (Ah)))),(1,.t (slI 3 ((AG L).map (Av)))),(2,.t (slI 1 ((Ck L).map (Bq)))),(7,.i (n:Int)),(8,.t (slI 1 ((clt L (L.length / 2)).map (Ah)))),(12,.i i)],[],50⟩
theorem Abj (L : List Nd) (n : Nat) (hn : L.length = n) (hl : n ≤ 2002) (hD : Dn L (L.length - 1)) :
  (AU (ouC L) n 0=0→LoopTr Tryz.prog I 192 (AQ Tryz.prog 114 1) (Abi L n ((0:Nat):Int)) (.exit 2) ⟨[],[],50⟩)∧(AU (ouC L) n 0≠0→LoopTr Tryz.prog I 192 (AQ Tryz.prog 114 1) (Abi L n ((0:Nat):Int)) .ret (Rx 130)):=by
 have pre : ∀ i,i < n→Sp Tryz.prog I 76 [R3 L,Su L,ci (i:Int)] (tit (deI (Be L i))):=fun i hi=>MM L (by omega) i (by omega) fun x h0 hx=>hD x h0 (by omega)
 have plen : ∀ i,(Be L i).length≤i:=Hu L;refine Di (ouC L) n (fun i=>Abi L n (i:Int)) (fun _=>Rx 130) (fun i hi hc => ?_) ?_ (fun i hi hc => ?_)
 ·have ec : i < (clt L (L.length / 2)).length := by rw [Gu]; omega
  have es:i < (Ck L).length:=by rw[GC];omega
  have hp:=pre i hi;have hlen:=plen i;unfold ouC at hc;by_cases k0:cpC L i=0
  ·rw [if_neg (fun h => h k0)] at hc
   by_cases k3:32 < (Be L i).length
   ·rw[if_pos k3] at hc;omega
   ·rw[if_neg k3] at hc
    have lo:=(UI (I:=I) L n i (Be L i) (by omega)).1 hc
    unfold cpC at k0;generalize Be L i=D at *;by_cases k1:2 < iat (clt L (L.length / 2)) i
    ·rw[if_pos k1] at k0;omega
    ·rw[if_neg k1] at k0
     by_cases hc:iat (clt L (L.length / 2)) i=2
     ·rw[decide_eq_true hc] at k0
      cases hs:decide ((tat L i).st=1) with
      | true =>
       have hst:=(FZ (L:=L) (i:=i) (by omega)).trans hs
       exact rr [pk (Al 3 (i:Int) (n:Int)),pk (Aj 40 3 1 ((clt L (L.length / 2)).map (Ah)) i (i:Int) (Ah (iat (clt L (L.length / 2)) i)) (Az ec)),pk (Aq 3 (iat (clt L (L.length / 2)) i) 2),pk (Aj 111 4 1 ((Ck L).map (Bq)) i (i:Int) ([.lit (.bool true)]) (Ln es hst)),pk (Aj 40 3 1 ((clt L (L.length / 2)).map (Ah)) i (i:Int) (Ah (iat (clt L (L.length / 2)) i)) (Az ec)),pk (AT 3 (iat (clt L (L.length / 2)) i) 2 true (decide_eq_true hc)),pa,po (hp),pk (AK 110 101 3 3 ((D).map (Av)) ((D).length:Int)),pk (Aq 3 ((D).length:Int) 32),pl (lo),pk (AA 3 (i:Int) 1 ⟨by omega,by omega⟩)]
      | false=>rw[hs] at k0;simp at k0
     ·rw[decide_eq_false hc] at k0
      cases hs:decide ((tat L i).st=1) with
      | true=>rw[hs] at k0;simp at k0
      | false =>
       have hst:=(FZ (L:=L) (i:=i) (by omega)).trans hs
       exact rr [pk (Al 3 (i:Int) (n:Int)),pk (Aj 40 3 1 ((clt L (L.length / 2)).map (Ah)) i (i:Int) (Ah (iat (clt L (L.length / 2)) i)) (Az ec)),pk (Aq 3 (iat (clt L (L.length / 2)) i) 2),pk (Aj 111 4 1 ((Ck L).map (Bq)) i (i:Int) ([.lit (.bool false)]) (Ln es hst)),pk (Aj 40 3 1 ((clt L (L.length / 2)).map (Ah)) i (i:Int) (Ah (iat (clt L (L.length / 2)) i)) (Az ec)),pk (AT 3 (iat (clt L (L.length / 2)) i) 2 false (decide_eq_false hc)),pa,po (hp),pk (AK 110 101 3 3 ((D).map (Av)) ((D).length:Int)),pk (Aq 3 ((D).length:Int) 32),pl (lo),pk (AA 3 (i:Int) 1 ⟨by omega,by omega⟩)]
  ·rw[if_pos k0] at hc;exact absurd hc k0
 ·exact rr [pk (Ai 3 (n:Int) (n:Int))]
 ·have ec : i < (clt L (L.length / 2)).length := by rw [Gu]; omega
  have es:i < (Ck L).length:=by rw[GC];omega
  have hp:=pre i hi;have hlen:=plen i;unfold ouC at hc;have lm:=UI (I:=I) L n i (Be L i) (by omega)
  generalize Be L i=D at *;by_cases k1:2 < iat (clt L (L.length / 2)) i
  ·exact rr [pk (Al 3 (i:Int) (n:Int)),pk (Aj 40 3 1 ((clt L (L.length / 2)).map (Ah)) i (i:Int) (Ah (iat (clt L (L.length / 2)) i)) (Az ec)),pk (Cc 3 (iat (clt L (L.length / 2)) i) 2)]
  ·have kc:cpC L i=if decide ((tat L i).st=1)=decide (iat (clt L (L.length / 2)) i=2) then 0 else 1:=by unfold cpC;rw[if_neg k1]
   rw[kc] at hc;by_cases hc2:iat (clt L (L.length / 2)) i=2
   ·rw[decide_eq_true hc2] at hc
    have hcc:=hc;cases hs:decide ((tat L i).st=1) with
    | true =>
     have hst:=(FZ (L:=L) (i:=i) (by omega)).trans hs
     rw[hs] at hc;simp only[if_true,ne_eq,not_true,if_false] at hc;by_cases k3:32 < D.length
     ·have hc:=hc2
      exact rr [pk (Al 3 (i:Int) (n:Int)),pk (Aj 40 3 1 ((clt L (L.length / 2)).map (Ah)) i (i:Int) (Ah (iat (clt L (L.length / 2)) i)) (Az ec)),pk (Aq 3 (iat (clt L (L.length / 2)) i) 2),pk (Aj 111 4 1 ((Ck L).map (Bq)) i (i:Int) ([.lit (.bool true)]) (Ln es hst)),pk (Aj 40 3 1 ((clt L (L.length / 2)).map (Ah)) i (i:Int) (Ah (iat (clt L (L.length / 2)) i)) (Az ec)),pk (AT 3 (iat (clt L (L.length / 2)) i) 2 true (decide_eq_true hc)),pa,po (hp),pk (AK 110 101 3 3 ((D).map (Av)) ((D).length:Int)),pk (Cc 3 ((D).length:Int) 32)]
     ·rw[if_neg k3] at hc
      have lo:=lm.2 hc;have hc:=hc2;exact rr [pk (Al 3 (i:Int) (n:Int)),pk (Aj 40 3 1 ((clt L (L.length / 2)).map (Ah)) i (i:Int) (Ah (iat (clt L (L.length / 2)) i)) (Az ec)),pk (Aq 3 (iat (clt L (L.length / 2)) i) 2),pk (Aj 111 4 1 ((Ck L).map (Bq)) i (i:Int) ([.lit (.bool true)]) (Ln es hst)),pk (Aj 40 3 1 ((clt L (L.length / 2)).map (Ah)) i (i:Int) (Ah (iat (clt L (L.length / 2)) i)) (Az ec)),pk (AT 3 (iat (clt L (L.length / 2)) i) 2 true (decide_eq_true hc)),pa,po (hp),pk (AK 110 101 3 3 ((D).map (Av)) ((D).length:Int)),pk (Aq 3 ((D).length:Int) 32),pl (lo)]
    | false =>
     have hst:=(FZ (L:=L) (i:=i) (by omega)).trans hs
     have hc:=hc2;exact rr [pk (Al 3 (i:Int) (n:Int)),pk (Aj 40 3 1 ((clt L (L.length / 2)).map (Ah)) i (i:Int) (Ah (iat (clt L (L.length / 2)) i)) (Az ec)),pk (Aq 3 (iat (clt L (L.length / 2)) i) 2),pk (Aj 111 4 1 ((Ck L).map (Bq)) i (i:Int) ([.lit (.bool false)]) (Ln es hst)),pk (Aj 40 3 1 ((clt L (L.length / 2)).map (Ah)) i (i:Int) (Ah (iat (clt L (L.length / 2)) i)) (Az ec)),pk (AT 3 (iat (clt L (L.length / 2)) i) 2 true (decide_eq_true hc)),pa]
   ·rw[decide_eq_false hc2] at hc
    cases hs:decide ((tat L i).st=1) with
    | true =>
     have hst:=(FZ (L:=L) (i:=i) (by omega)).trans hs
     have hc:=hc2;exact rr [pk (Al 3 (i:Int) (n:Int)),pk (Aj 40 3 1 ((clt L (L.length / 2)).map (Ah)) i (i:Int) (Ah (iat (clt L (L.length / 2)) i)) (Az ec)),pk (Aq 3 (iat (clt L (L.length / 2)) i) 2),pk (Aj 111 4 1 ((Ck L).map (Bq)) i (i:Int) ([.lit (.bool true)]) (Ln es hst)),pk (Aj 40 3 1 ((clt L (L.length / 2)).map (Ah)) i (i:Int) (Ah (iat (clt L (L.length / 2)) i)) (Az ec)),pk (AT 3 (iat (clt L (L.length / 2)) i) 2 false (decide_eq_false hc)),pa]
    | false =>
     have hst:=(FZ (L:=L) (i:=i) (by omega)).trans hs
     rw[hs] at hc;simp only[if_true,ne_eq,not_true,if_false] at hc;by_cases k3:32 < D.length
     ·have hc:=hc2
      exact rr [pk (Al 3 (i:Int) (n:Int)),pk (Aj 40 3 1 ((clt L (L.length / 2)).map (Ah)) i (i:Int) (Ah (iat (clt L (L.length / 2)) i)) (Az ec)),pk (Aq 3 (iat (clt L (L.length / 2)) i) 2),pk (Aj 111 4 1 ((Ck L).map (Bq)) i (i:Int) ([.lit (.bool false)]) (Ln es hst)),pk (Aj 40 3 1 ((clt L (L.length / 2)).map (Ah)) i (i:Int) (Ah (iat (clt L (L.length / 2)) i)) (Az ec)),pk (AT 3 (iat (clt L (L.length / 2)) i) 2 false (decide_eq_false hc)),pa,po (hp),pk (AK 110 101 3 3 ((D).map (Av)) ((D).length:Int)),pk (Cc 3 ((D).length:Int) 32)]
     ·rw[if_neg k3] at hc
      have lo:=lm.2 hc;have hc:=hc2;exact rr [pk (Al 3 (i:Int) (n:Int)),pk (Aj 40 3 1 ((clt L (L.length / 2)).map (Ah)) i (i:Int) (Ah (iat (clt L (L.length / 2)) i)) (Az ec)),pk (Aq 3 (iat (clt L (L.length / 2)) i) 2),pk (Aj 111 4 1 ((Ck L).map (Bq)) i (i:Int) ([.lit (.bool false)]) (Ln es hst)),pk (Aj 40 3 1 ((clt L (L.length / 2)).map (Ah)) i (i:Int) (Ah (iat (clt L (L.length / 2)) i)) (Az ec)),pk (AT 3 (iat (clt L (L.length / 2)) i) 2 false (decide_eq_false hc)),pa,po (hp),pk (AK 110 101 3 3 ((D).map (Av)) ((D).length:Int)),pk (Aq 3 ((D).length:Int) 32),pl (lo)]
end
def rpB (L:List Nd):Bool:=rtB L&&((List.range (L.length / 2)).all (prB L))&&decide (AU (ouC L) L.length 0=0)
section
variable {I:WInv}{c c':Bool}
theorem Wr (L:List Nd)(n M:Nat)(hn:L.length=n)(hM:n=2*M+1)(hl:n≤2002)(h : ∀ x,x < M→prB L x=true) :
  LoopTr Tryz.prog I 192 (AQ Tryz.prog 114 0) (MX L n (clt L 0) (2*((0:Nat):Int)+1)) (.exit 0) ⟨[(0,.t (slI 1 ((At L).map (Ah)))),(1,.t (slI 3 ((AG L).map (Av)))),(2,.t (slI 1 ((Ck L).map (Bq)))),(7,.i (n:Int)),(8,.s 25)],[(25,some ⟨3,some (1,n),Aa ((clt L M).map Ah)⟩)],50⟩ :=
 Bz (by simp) (fun m=>MX L n (clt L m) (2*(m:Int)+1)) M (fun m hm=>(GM L n hn m (by omega) hl).1 (h m hm)) (by
  exact Rnd.nam [] (show Rnd _ _ _ _ _ _ ⟨[(0,.t (slI 1 ((At L).map (Ah)))),(1,.t (slI 3 ((AG L).map (Av)))),(2,.t (slI 1 ((Ck L).map (Bq)))),(7,.i (n:Int)),(8,.s 25)],[(25,some ⟨3,some (1,n),Aa ((clt L M).map Ah)⟩)],53⟩ from rr [pk (Ai 3 (2*(M:Int)+1) (n:Int))]) (t:=⟨[(0,.t (slI 1 ((At L).map (Ah)))),(1,.t (slI 3 ((AG L).map (Av)))),(2,.t (slI 1 ((Ck L).map (Bq)))),(7,.i (n:Int)),(8,.s 25)],[(25,some ⟨3,some (1,n),Aa ((clt L M).map Ah)⟩)],50⟩) ⟨rfl,TVle.refl,rfl,TVle.refl,rfl,TVle.refl,rfl,TVle.refl,rfl,TVle.refl,trivial⟩ ⟨rfl,rfl,rfl,ILe.refl,trivial⟩)
theorem Wq (L:List Nd)(n i:Nat)(hn:L.length=n)(hi:2*i+2 < n)(hl:n≤2002)(h : ∀ x,x < i→prB L x=true)(hb:prB L i=false) :
  LoopTr Tryz.prog I 192 (AQ Tryz.prog 114 0) (MX L n (clt L 0) (2*((0:Nat):Int)+1)) .ret (Rx 50) :=
 Bz (by simp) (fun m=>MX L n (clt L m) (2*(m:Int)+1)) i (fun m hm=>(GM L n hn m (by omega) hl).1 (h m hm)) ((GM L n hn i hi hl).2 hb)
theorem YI (L : List Nd) (h0 : 0 < L.length) (hl : L.length ≤ 2002) : Sp Tryz.prog I 114 [R3 L, Su L, Adc L] (lb (rpB L)) := by
 obtain ⟨n,hn⟩ : ∃ n,L.length=n:=⟨_,rfl⟩;have hlp:=Dp L;have e0:0 < (At L).length:=by rw[Dp];exact h0
 have f0:0 < (AG L).length:=by rw[Fa];exact h0
 have g0:=JY h0;have hz:=Xq (I:=I) (dat (AG L) 0);rw[Kx h0] at hz;have d0:=Kx h0;by_cases q3:L.length % 2=1
 ·by_cases q1 : (tat L 0).par = -1
  ·by_cases q2:dcn (tat L 0)=(0,0,false)
   ·rw[decide_eq_true q2,←d0] at hz
    obtain ⟨M,hM⟩ : ∃ M,L.length=2*M+1:=⟨L.length / 2,by omega⟩
    have hM2:L.length / 2=M:=by omega
    have hz0:clt L 0=List.replicate L.length 0:=rfl;rcases OW (prB L) M with h | ⟨i,h1,h2,h3⟩
    ·have lo:=Wr (I:=I) L n M hn (by omega) (by omega) h
     unfold MX at lo;rw[hz0,KB,hn,show 2*((0:Nat):Int)+1=1 from rfl] at lo;have lo2:=Abj (I:=I) L n hn (by omega) (by have:=TE (L:=L) (m:=M) h;rw[hM];exact this)
     unfold Abi at lo2;rw[hM2] at lo2;by_cases k:AU (ouC L) n 0=0
     ·rw[show rpB L=true by unfold rpB rtB;rw[hM2,hn];simp[q1,q2,k,hn▸q3];exact h]
      have lo2:=lo2.1 k;rw[hM2] at *;exact sr 192 [pk (AK 40 3 3 1 ((At L).map (Ah)) (n:Int)),pk (Af 3 (n:Int) 0),pk (Fz 3 (n:Int) 2 (by omega)),pk (AT 3 (((n:Int)).tmod 2) 0 false (decide_eq_false (by rw[Int.tmod_eq_emod_of_nonneg (by omega)];omega))),pk (Aj 40 3 1 ((At L).map (Ah)) 0 0 (Ah (iat (At L) 0)) (Az e0)),pk (As 3 (iat (At L) 0) (-1)),pk (Aj 110 101 3 ((AG L).map (Av)) 0 0 (Av (dat (AG L) 0)) (Bb f0)),po (hz),pa,⟨.mk (n:Int) n 8,⟨rfl,by omega,by simp only[maxLen];omega⟩⟩,⟨.mk (n:Int) n 8,⟨rfl,by omega,by simp only[maxLen];omega⟩⟩,pl (lo),pm (AZ (I:=I) (t:=8) (k:=25) (E:=[(0,.t (slI 1 ((At L).map (Ah)))),(1,.t (slI 3 ((AG L).map (Av)))),(2,.t (slI 1 ((Ck L).map (Bq)))),(7,.i (n:Int))]) (B:=[]) (nx:=50) (T:=3) (sz:=1) (n:=n) ((clt L M).map Ah) rfl (by rw[List.length_map,Gu];exact hn.symm) Ma rfl),pl (lo2)]
     ·rw[show rpB L=false by unfold rpB;rw[hn,decide_eq_false k,Bool.and_false]]
      have lo2:=lo2.2 k;exact sr 192 [pk (AK 40 3 3 1 ((At L).map (Ah)) (n:Int)),pk (Af 3 (n:Int) 0),pk (Fz 3 (n:Int) 2 (by omega)),pk (AT 3 (((n:Int)).tmod 2) 0 false (decide_eq_false (by rw[Int.tmod_eq_emod_of_nonneg (by omega)];omega))),pk (Aj 40 3 1 ((At L).map (Ah)) 0 0 (Ah (iat (At L) 0)) (Az e0)),pk (As 3 (iat (At L) 0) (-1)),pk (Aj 110 101 3 ((AG L).map (Av)) 0 0 (Av (dat (AG L) 0)) (Bb f0)),po (hz),pa,⟨.mk (n:Int) n 8,⟨rfl,by omega,by simp only[maxLen];omega⟩⟩,⟨.mk (n:Int) n 8,⟨rfl,by omega,by simp only[maxLen];omega⟩⟩,pl (lo),pm (AZ (I:=I) (t:=8) (k:=25) (E:=[(0,.t (slI 1 ((At L).map (Ah)))),(1,.t (slI 3 ((AG L).map (Av)))),(2,.t (slI 1 ((Ck L).map (Bq)))),(7,.i (n:Int))]) (B:=[]) (nx:=50) (T:=3) (sz:=1) (n:=n) ((clt L M).map Ah) rfl (by rw[List.length_map,Gu];exact hn.symm) Ma rfl),pl (lo2)]
    ·have lo:=Wq (I:=I) L n i hn (by omega) (by omega) h2 h3
     unfold MX at lo;rw[hz0,KB,hn,show 2*((0:Nat):Int)+1=1 from rfl] at lo;rw[show rpB L=false by
      unfold rpB;rw[Bool.and_eq_false_iff,Bool.and_eq_false_iff];left;right;rw[List.all_eq_false];exact ⟨i,List.mem_range.2 (by omega),by simp[h3]⟩]
     exact sr 192 [pk (AK 40 3 3 1 ((At L).map (Ah)) (n:Int)),pk (Af 3 (n:Int) 0),pk (Fz 3 (n:Int) 2 (by omega)),pk (AT 3 (((n:Int)).tmod 2) 0 false (decide_eq_false (by rw[Int.tmod_eq_emod_of_nonneg (by omega)];omega))),pk (Aj 40 3 1 ((At L).map (Ah)) 0 0 (Ah (iat (At L) 0)) (Az e0)),pk (As 3 (iat (At L) 0) (-1)),pk (Aj 110 101 3 ((AG L).map (Av)) 0 0 (Av (dat (AG L) 0)) (Bb f0)),po (hz),pa,⟨.mk (n:Int) n 8,⟨rfl,by omega,by simp only[maxLen];omega⟩⟩,⟨.mk (n:Int) n 8,⟨rfl,by omega,by simp only[maxLen];omega⟩⟩,pl (lo)]
   ·rw[decide_eq_false q2,←d0] at hz
    rw[show rpB L=false by unfold rpB rtB;simp[q2]]
    exact sr 192 [pk (AK 40 3 3 1 ((At L).map (Ah)) (n:Int)),pk (Af 3 (n:Int) 0),pk (Fz 3 (n:Int) 2 (by omega)),pk (AT 3 (((n:Int)).tmod 2) 0 false (decide_eq_false (by rw[Int.tmod_eq_emod_of_nonneg (by omega)];omega))),pk (Aj 40 3 1 ((At L).map (Ah)) 0 0 (Ah (iat (At L) 0)) (Az e0)),pk (As 3 (iat (At L) 0) (-1)),pk (Aj 110 101 3 ((AG L).map (Av)) 0 0 (Av (dat (AG L) 0)) (Bb f0)),po (hz),pa]
  ·rw[show rpB L=false by unfold rpB rtB;simp[q1]]
   exact sr 192 [pk (AK 40 3 3 1 ((At L).map (Ah)) (n:Int)),pk (Af 3 (n:Int) 0),pk (Fz 3 (n:Int) 2 (by omega)),pk (AT 3 (((n:Int)).tmod 2) 0 false (decide_eq_false (by rw[Int.tmod_eq_emod_of_nonneg (by omega)];omega))),pk (Aj 40 3 1 ((At L).map (Ah)) 0 0 (Ah (iat (At L) 0)) (Az e0)),pk (AO 3 (iat (At L) 0) (-1))]
 ·rw[show rpB L=false by unfold rpB rtB;simp[q3]]
  exact sr 192 [pk (AK 40 3 3 1 ((At L).map (Ah)) (n:Int)),pk (Af 3 (n:Int) 0),pk (Fz 3 (n:Int) 2 (by omega)),pk (AT 3 (((n:Int)).tmod 2) 0 true (decide_eq_true (by rw[Int.tmod_eq_emod_of_nonneg (by omega)];omega)))]
end
def QB (f:Bool)(z:Int)(q:Rat):Bool:=f&&decide (z≤civ q)
def bdC (L:List Nd)(i:Nat):Int:=if (tat L i).q < (tat L (tat L i).par.toNat).q then 12 else 0
def rsC (L:List Nd)(f:Bool)(z:Int)(i:Nat):Int:=if (tat L i).st=1 then 0 else if decide ((tat L i).st=2)=QB f z (tat L i).q then 0 else 16
def rvc (L:List Nd)(f:Bool)(z:Int):Int :=
 if L.length < 1∨2000 < L.length then 10 else if BN z=false∨(f=false∧z≠0) then 5 else if AU (CP L) L.length 0≠0 then AU (CP L) L.length 0 else if rpB L=false then 12 else
 if AU (fun j=>bdC L (j+1)) (L.length - 1) 0≠0 then AU (fun j=>bdC L (j+1)) (L.length - 1) 0 else AU (rsC L f z) L.length 0
section
variable {I:WInv}{c c':Bool}
theorem Pj (L:List Nd)(f:Bool)(z:Int)(q:Rat):Sp Tryz.prog I 77 [trT c L f z,fc c' 12 q] (lb (QB f z q)):=by
 unfold QB;cases f with
 | false=>exact sr 20 [po (BO (I:=I) (c:=c') (p:=q))]
 | true =>
  by_cases h:z≤civ q
  ·rw[decide_eq_true h]
   exact sr 20 [po (BO (I:=I) (c:=c') (p:=q)),pk (Bx 3 (civ q) z)]
  ·rw[decide_eq_false h]
   exact sr 20 [po (BO (I:=I) (c:=c') (p:=q)),pk (By 3 (civ q) z)]
def rv1 (c:Bool)(L:List Nd)(f:Bool)(z:Int)(n:Nat)(i:Int):Go.Proofs.YtdgbealknnmkoaaGreatDoor.St:=⟨[(1,.p 0 0),(3,.i (n:Int)),(4,.i i)],[(0,some ⟨46,none,[.b (.it (slI 9 ((L).map (Ag c)))),.o f,.i z]⟩)],50⟩
def rv2 (c:Bool)(L:List Nd)(f:Bool)(z:Int)(n:Nat)(i:Int):Go.Proofs.YtdgbealknnmkoaaGreatDoor.St:=⟨[(1,.p 0 0),(3,.i (n:Int)),(7,.t (slI 1 ((At L).map (Ah)))),(9,.t (slI 1 ((Ck L).map (Bq)))),(10,.i i)],[(0,some ⟨46,none,[.b (.it (slI 9 ((L).map (Ag c)))),.o f,.i z]⟩)],50⟩
def rv3 (c:Bool)(L:List Nd)(f:Bool)(z:Int)(n:Nat)(i:Int):Go.Proofs.YtdgbealknnmkoaaGreatDoor.St:=⟨[(1,.p 0 0),(3,.i (n:Int)),(9,.t (slI 1 ((Ck L).map (Bq)))),(11,.i i)],[(0,some ⟨46,none,[.b (.it (slI 9 ((L).map (Ag c)))),.o f,.i z]⟩)],50⟩
theorem Lz (L:List Nd)(f:Bool)(z:Int)(n:Nat)(hn:L.length=n)(hl:n≤2000)(i:Nat)(hi:i < L.length) :
  (CP L i=0→Rnd Tryz.prog I 131 (AQ Tryz.prog 70 0) (rv1 c L f z n (i:Int)) .normal (rv1 c L f z n ((i+1:Nat):Int)))∧(CP L i≠0→Rnd Tryz.prog I 131 (AQ Tryz.prog 70 0) (rv1 c L f z n (i:Int)) .ret ⟨[(2,li 5)],[],50⟩):=by
 cases h3:okc (tat L i).q with
 | false =>
  have e:=Lm h3;refine ⟨fun h => ?_,fun _ => ?_⟩
  ·unfold CP at h
   rw[h3] at h;split at h
   ·omega
   ·exact absurd h (by decide)
  ·by_cases h1:(tat L i).st < 0
   ·exact rr [pk (Al 3 (i:Int) (n:Int)),pk (Aj 44 103 9 ((L).map (Ag c)) i (i:Int) ((Ag c) (tat L i)) (AR hi)),po (BO (I:=I) (c:=c) (p:=(tat L i).q)),pk (Aj 44 103 9 ((L).map (Ag c)) i (i:Int) ((Ag c) (tat L i)) (AR hi)),pk (Al 3 ((tat L i).st) 0)]
   ·by_cases h2:2 < (tat L i).st
    ·exact rr [pk (Al 3 (i:Int) (n:Int)),pk (Aj 44 103 9 ((L).map (Ag c)) i (i:Int) ((Ag c) (tat L i)) (AR hi)),po (BO (I:=I) (c:=c) (p:=(tat L i).q)),pk (Aj 44 103 9 ((L).map (Ag c)) i (i:Int) ((Ag c) (tat L i)) (AR hi)),pk (Ai 3 ((tat L i).st) 0),pk (Aj 44 103 9 ((L).map (Ag c)) i (i:Int) ((Ag c) (tat L i)) (AR hi)),pk (Cc 3 ((tat L i).st) 2)]
    ·exact rr [pk (Al 3 (i:Int) (n:Int)),pk (Aj 44 103 9 ((L).map (Ag c)) i (i:Int) ((Ag c) (tat L i)) (AR hi)),po (BO (I:=I) (c:=c) (p:=(tat L i).q)),pk (Aj 44 103 9 ((L).map (Ag c)) i (i:Int) ((Ag c) (tat L i)) (AR hi)),pk (Ai 3 ((tat L i).st) 0),pk (Aj 44 103 9 ((L).map (Ag c)) i (i:Int) ((Ag c) (tat L i)) (AR hi)),pk (Aq 3 ((tat L i).st) 2),pk (AO 32 (cie ((tat L i).q)) 0)]
 | true =>
  have e:=Gx h3;by_cases h1:(tat L i).st < 0
  ·refine ⟨fun h=>absurd h (by unfold CP;rw[if_pos (.inl h1)];decide),fun _ => ?_⟩
   exact rr [pk (Al 3 (i:Int) (n:Int)),pk (Aj 44 103 9 ((L).map (Ag c)) i (i:Int) ((Ag c) (tat L i)) (AR hi)),po (BO (I:=I) (c:=c) (p:=(tat L i).q)),pk (Aj 44 103 9 ((L).map (Ag c)) i (i:Int) ((Ag c) (tat L i)) (AR hi)),pk (Al 3 ((tat L i).st) 0)]
  ·by_cases h2:2 < (tat L i).st
   ·refine ⟨fun h=>absurd h (by unfold CP;rw[if_pos (.inr h2)];decide),fun _ => ?_⟩
    exact rr [pk (Al 3 (i:Int) (n:Int)),pk (Aj 44 103 9 ((L).map (Ag c)) i (i:Int) ((Ag c) (tat L i)) (AR hi)),po (BO (I:=I) (c:=c) (p:=(tat L i).q)),pk (Aj 44 103 9 ((L).map (Ag c)) i (i:Int) ((Ag c) (tat L i)) (AR hi)),pk (Ai 3 ((tat L i).st) 0),pk (Aj 44 103 9 ((L).map (Ag c)) i (i:Int) ((Ag c) (tat L i)) (AR hi)),pk (Cc 3 ((tat L i).st) 2)]
   ·refine ⟨fun _ => ?_,fun h=>absurd (show CP L i=0 by unfold CP;rw[if_neg (by omega),h3];rfl) h⟩
    exact rr [pk (Al 3 (i:Int) (n:Int)),pk (Aj 44 103 9 ((L).map (Ag c)) i (i:Int) ((Ag c) (tat L i)) (AR hi)),po (BO (I:=I) (c:=c) (p:=(tat L i).q)),pk (Aj 44 103 9 ((L).map (Ag c)) i (i:Int) ((Ag c) (tat L i)) (AR hi)),pk (Ai 3 ((tat L i).st) 0),pk (Aj 44 103 9 ((L).map (Ag c)) i (i:Int) ((Ag c) (tat L i)) (AR hi)),pk (Aq 3 ((tat L i).st) 2),pk (As 32 (cie ((tat L i).q)) 0),pk (AA 3 (i:Int) 1 ⟨by omega,by omega⟩)]
theorem Ly (L:List Nd)(f:Bool)(z:Int)(n:Nat)(hn:L.length=n)(hl:n≤2000)(hD:Dn L (L.length - 1))(i:Nat)(h0:0 < i)(hi:i < L.length) :
  (bdC L i=0→Rnd Tryz.prog I 131 (AQ Tryz.prog 70 1) (rv2 c L f z n (i:Int)) .normal (rv2 c L f z n ((i+1:Nat):Int)))∧(bdC L i≠0→Rnd Tryz.prog I 131 (AQ Tryz.prog 70 1) (rv2 c L f z n (i:Int)) .ret ⟨[(2,li 12)],[],50⟩):=by
 have ei:i < (At L).length:=by rw[Dp];exact hi
 obtain ⟨p,hpe,hlt⟩:=hD.nat h0 (by omega)
 have hp:p < L.length:=by omega
 have g:=JY hi;have ht:(tat L i).par.toNat=p:=by omega
 unfold bdC;rw[ht];by_cases h:(tat L i).q < (tat L p).q
 ·rw[if_pos h]
  refine ⟨fun h=>by omega,fun _ => ?_⟩
  exact rr [pk (Al 3 (i:Int) (n:Int)),pk (Aj 44 103 9 ((L).map (Ag c)) i (i:Int) ((Ag c) (tat L i)) (AR hi)),pk (Aj 40 3 1 ((At L).map (Ah)) i (i:Int) (Ah (iat (At L) i)) (Az ei)),pk (Aj 44 103 9 ((L).map (Ag c)) p (iat (At L) i) ((Ag c) (tat L p)) (AR hp)),po (Q1 (I:=I) (c:=c) (c':=c) (p:=(tat L i).q) (q:=(tat L p).q)),pk (D8 3 (Fe ((tat L i).q) ((tat L p).q)) 0 true (ZZ (by grind)))]
 ·rw[if_neg h]
  refine ⟨fun _ => ?_,fun h=>by omega⟩
  exact rr [pk (Al 3 (i:Int) (n:Int)),pk (Aj 44 103 9 ((L).map (Ag c)) i (i:Int) ((Ag c) (tat L i)) (AR hi)),pk (Aj 40 3 1 ((At L).map (Ah)) i (i:Int) (Ah (iat (At L) i)) (Az ei)),pk (Aj 44 103 9 ((L).map (Ag c)) p (iat (At L) i) ((Ag c) (tat L p)) (AR hp)),po (Q1 (I:=I) (c:=c) (c':=c) (p:=(tat L i).q) (q:=(tat L p).q)),pk (D8 3 (Fe ((tat L i).q) ((tat L p).q)) 0 false (Xf (by grind))),pk (AA 3 (i:Int) 1 ⟨by omega,by omega⟩)]
theorem Lx (L:List Nd)(f:Bool)(z:Int)(n:Nat)(hn:L.length=n)(hl:n≤2000)(i:Nat)(hi:i < L.length) :
  (rsC L f z i=0→Rnd Tryz.prog I 131 (AQ Tryz.prog 70 2) (rv3 c L f z n (i:Int)) .normal (rv3 c L f z n ((i+1:Nat):Int)))∧(rsC L f z i≠0→Rnd Tryz.prog I 131 (AQ Tryz.prog 70 2) (rv3 c L f z n (i:Int)) .ret ⟨[(2,li 16)],[],50⟩):=by
 have es:i < (Ck L).length:=by rw[GC];exact hi
 have hb:=Pj (I:=I) (c:=c) (c':=c) L f z (tat L i).q;have hs:=FZ hi;unfold rsC;by_cases h1:(tat L i).st=1
 ·rw[decide_eq_true h1] at hs
  rw[if_pos h1];refine ⟨fun _ => ?_,fun h=>absurd rfl h⟩
  exact rr [pk (Al 3 (i:Int) (n:Int)),pk (Aj 111 4 1 ((Ck L).map (Bq)) i (i:Int) ([.lit (.bool true)]) (Ln es hs)),pa,pk (AA 3 (i:Int) 1 ⟨by omega,by omega⟩)]
 ·rw[decide_eq_false h1] at hs
  rw[if_neg h1];cases hbe:QB f z (tat L i).q with
  | true =>
   rw[hbe] at hb;by_cases h2:(tat L i).st=2
   ·rw[decide_eq_true h2,if_pos rfl]
    refine ⟨fun _ => ?_,fun h=>absurd rfl h⟩
    exact rr [pk (Al 3 (i:Int) (n:Int)),pk (Aj 111 4 1 ((Ck L).map (Bq)) i (i:Int) ([.lit (.bool false)]) (Ln es hs)),pa,pk (Aj 44 103 9 ((L).map (Ag c)) i (i:Int) ((Ag c) (tat L i)) (AR hi)),pk (Am 3 ((tat L i).st) 2),pk (Aj 44 103 9 ((L).map (Ag c)) i (i:Int) ((Ag c) (tat L i)) (AR hi)),po (hb),pa,pk (AA 3 (i:Int) 1 ⟨by omega,by omega⟩)]
   ·rw[decide_eq_false h2,if_neg (by simp)]
    refine ⟨fun h=>by omega,fun _ => ?_⟩
    exact rr [pk (Al 3 (i:Int) (n:Int)),pk (Aj 111 4 1 ((Ck L).map (Bq)) i (i:Int) ([.lit (.bool false)]) (Ln es hs)),pa,pk (Aj 44 103 9 ((L).map (Ag c)) i (i:Int) ((Ag c) (tat L i)) (AR hi)),pk (Af 3 ((tat L i).st) 2),pk (Aj 44 103 9 ((L).map (Ag c)) i (i:Int) ((Ag c) (tat L i)) (AR hi)),po (hb),pa]
  | false =>
   rw[hbe] at hb;by_cases h2:(tat L i).st=2
   ·rw[decide_eq_true h2,if_neg (by simp)]
    refine ⟨fun h=>by omega,fun _ => ?_⟩
    exact rr [pk (Al 3 (i:Int) (n:Int)),pk (Aj 111 4 1 ((Ck L).map (Bq)) i (i:Int) ([.lit (.bool false)]) (Ln es hs)),pa,pk (Aj 44 103 9 ((L).map (Ag c)) i (i:Int) ((Ag c) (tat L i)) (AR hi)),pk (Am 3 ((tat L i).st) 2),pk (Aj 44 103 9 ((L).map (Ag c)) i (i:Int) ((Ag c) (tat L i)) (AR hi)),po (hb),pa]
   ·rw[decide_eq_false h2,if_pos rfl]
    refine ⟨fun _ => ?_,fun h=>absurd rfl h⟩
    exact rr [pk (Al 3 (i:Int) (n:Int)),pk (Aj 111 4 1 ((Ck L).map (Bq)) i (i:Int) ([.lit (.bool false)]) (Ln es hs)),pa,pk (Aj 44 103 9 ((L).map (Ag c)) i (i:Int) ((Ag c) (tat L i)) (AR hi)),pk (Af 3 ((tat L i).st) 2),pk (Aj 44 103 9 ((L).map (Ag c)) i (i:Int) ((Ag c) (tat L i)) (AR hi)),po (hb),pa,pk (AA 3 (i:Int) 1 ⟨by omega,by omega⟩)]
theorem Aao {L:List Nd}{i:Nat}(h:bdC L i≠0):bdC L i=12:=by
 unfold bdC at h ⊢;split
 ·rfl
 ·rename_i k;rw[if_neg k] at h;exact absurd rfl h
theorem Adn {L:List Nd}{f:Bool}{z:Int}{i:Nat}(h:rsC L f z i≠0):rsC L f z i=16:=by
 unfold rsC at h ⊢;split
 ·rename_i k;rw[if_pos k] at h;exact absurd rfl h
 ·rename_i k
  rw[if_neg k] at h;split
  ·rename_i k2;rw[if_pos k2] at h;exact absurd rfl h
  ·rfl
theorem PJ {L:List Nd}(h:rpB L=true):Dn L (L.length - 1):=by
 unfold rpB rtB at h;simp only[Bool.and_eq_true,List.all_eq_true,List.mem_range,decide_eq_true_eq] at h;obtain ⟨⟨⟨_,h1⟩,h2⟩,_⟩:=h;have:=TE (L:=L) (m:=L.length / 2) h2;rw[show L.length - 1=2*(L.length / 2) by omega]
 exact this
theorem SR (L:List Nd)(f:Bool)(z:Int)(hl:L.length≤2000) :
  ((AU (CP L) L.length 0=0→LoopTr Tryz.prog I 131 (AQ Tryz.prog 70 0) (rv1 c L f z L.length ((0:Nat):Int)) (.exit 0) ⟨[(1,.p 0 0),(3,.i ((L).length:Int))],[(0,some ⟨46,none,[.b (.it (slI 9 ((L).map (Ag c)))),.o f,.i z]⟩)],50⟩)∧(AU (CP L) L.length 0≠0→LoopTr Tryz.prog I 131 (AQ Tryz.prog 70 0) (rv1 c L f z L.length ((0:Nat):Int)) .ret ⟨[(2,li (AU (CP L) L.length 0))],[],50⟩)) ∧
  (Dn L (L.length - 1)→0 < L.length→(AU (fun j=>bdC L (j+1)) (L.length - 1) 0=0→LoopTr Tryz.prog I 131 (AQ Tryz.prog 70 1) (rv2 c L f z L.length ((1:Nat):Int)) (.exit 2) ⟨[(1,.p 0 0),(3,.i ((L).length:Int)),(9,.t (slI 1 ((Ck L).map (Bq))))],[(0,some ⟨46,none,[.b (.it (slI 9 ((L).map (Ag c)))),.o f,.i z]⟩)],50⟩)∧(AU (fun j=>bdC L (j+1)) (L.length - 1) 0≠0→LoopTr Tryz.prog I 131 (AQ Tryz.prog 70 1) (rv2 c L f z L.length ((1:Nat):Int)) .ret ⟨[(2,li (AU (fun j=>bdC L (j+1)) (L.length - 1) 0))],[],50⟩)) ∧
  ((AU (rsC L f z) L.length 0=0→LoopTr Tryz.prog I 131 (AQ Tryz.prog 70 2) (rv3 c L f z L.length ((0:Nat):Int)) (.exit 4) ⟨[],[],50⟩)∧(AU (rsC L f z) L.length 0≠0→LoopTr Tryz.prog I 131 (AQ Tryz.prog 70 2) (rv3 c L f z L.length ((0:Nat):Int)) .ret ⟨[(2,li (AU (rsC L f z) L.length 0))],[],50⟩)):=by
 refine ⟨?_,fun hD h0 => ?_,?_⟩
 ·refine Di (CP L) L.length (fun i=>rv1 c L f z L.length (i:Int)) (fun r=>⟨[(2,li r)],[],50⟩) (fun i hi hc=>(Lz L f z _ rfl hl i hi).1 hc) ?_ (fun i hi hc => ?_)
  ·exact rr [pk (Ai 3 ((L).length:Int) ((L).length:Int))]
  ·rw[AdA hc]
   exact (Lz L f z _ rfl hl i hi).2 hc
 ·refine Di (fun j=>bdC L (j+1)) (L.length - 1) (fun i=>rv2 c L f z L.length ((i+1:Nat):Int)) (fun r=>⟨[(2,li r)],[],50⟩) (fun i hi hc=>(Ly L f z _ rfl hl hD (i+1) (by omega) (by omega)).1 hc) ?_ (fun i hi hc => ?_)
  ·rw[show L.length - 1+1=L.length by omega]
   exact rr [pk (Ai 3 ((L).length:Int) ((L).length:Int))]
  ·rw[Aao hc]
   exact (Ly L f z _ rfl hl hD (i+1) (by omega) (by omega)).2 hc
 ·refine Di (rsC L f z) L.length (fun i=>rv3 c L f z L.length (i:Int)) (fun r=>⟨[(2,li r)],[],50⟩) (fun i hi hc=>(Lx L f z _ rfl hl i hi).1 hc) ?_ (fun i hi hc => ?_)
  ·exact rr [pk (Ai 3 ((L).length:Int) ((L).length:Int))]
  ·rw[Adn hc]
   exact (Lx L f z _ rfl hl i hi).2 hc
theorem Gc (L : List Nd) (f : Bool) (z : Int) (hl : L.length ≤ 1000000000) : Sp Tryz.prog I 70 [trT c L f z] (li (rvc L f z)) := by
 have hc:=EN (I:=I) z;unfold rvc;by_cases h1:L.length < 1
 ·rw[if_pos (.inl h1)]
  exact sr 131 [pk (AK 44 103 3 9 ((L).map (Ag c)) ((L).length:Int)),pk (Am 3 ((L).length:Int) 0)]
 ·by_cases h2 : 2000 < L.length
  ·rw[if_pos (.inr h2)]
   exact sr 131 [pk (AK 44 103 3 9 ((L).map (Ag c)) ((L).length:Int)),pk (Af 3 ((L).length:Int) 0),pk (Cc 3 ((L).length:Int) 2000)]
  ·rw [if_neg (by omega)]
   have hli:=YY (I:=I) (c:=c) L f z (by omega)
   have hpa:=YI (I:=I) L (by omega) (by omega)
   cases hcb:BN z with
   | false =>
    rw[hcb] at hc;rw[if_pos (.inl rfl)];exact sr 131 [pk (AK 44 103 3 9 ((L).map (Ag c)) ((L).length:Int)),pk (Af 3 ((L).length:Int) 0),pk (Aq 3 ((L).length:Int) 2000),po (hc),pa]
   | true =>
    rw[hcb] at hc;obtain ⟨l1,l2,l3⟩:=SR (I:=I) (c:=c) L f z (by omega)
    have tail : ∀ (P0:AU (CP L) L.length 0≠0→Sp Tryz.prog I 70 [trT c L f z] (li (AU (CP L) L.length 0))) (P1:AU (CP L) L.length 0=0→rpB L=false→Sp Tryz.prog I 70 [trT c L f z] (li 12)) (P2:AU (CP L) L.length 0=0→rpB L=true→AU (fun j=>bdC L (j+1)) (L.length - 1) 0≠0→Sp Tryz.prog I 70 [trT c L f z] (li (AU (fun j=>bdC L (j+1)) (L.length - 1) 0)))
      (P3:AU (CP L) L.length 0=0→rpB L=true→AU (fun j=>bdC L (j+1)) (L.length - 1) 0=0→Sp Tryz.prog I 70 [trT c L f z] (li (AU (rsC L f z) L.length 0))),Sp Tryz.prog I 70 [trT c L f z] (li (if AU (CP L) L.length 0≠0 then AU (CP L) L.length 0 else if rpB L=false then 12 else if AU (fun j=>bdC L (j+1)) (L.length - 1) 0≠0 then AU (fun j=>bdC L (j+1)) (L.length - 1) 0 else AU (rsC L f z) L.length 0)):=by
     intro P0 P1 P2 P3;by_cases h5:AU (CP L) L.length 0=0
     ·rw[if_neg (fun h=>h h5)]
      cases h6:rpB L with
      | false=>rw[if_pos rfl];exact P1 h5 h6
      | true =>
       rw[if_neg (by decide)]
       by_cases h7:AU (fun j=>bdC L (j+1)) (L.length - 1) 0=0
       ·rw[if_neg (fun h=>h h7)];exact P3 h5 h6 h7
       ·rw[if_pos h7];exact P2 h5 h6 h7
     ·rw[if_pos h5];exact P0 h5
    cases f with
    | false =>
     by_cases hz:z=0
     ·rw[if_neg (by simp[hz])]
      refine tail (fun h5 => ?_) (fun h5 h6 => ?_) (fun h5 h6 h7 => ?_) (fun h5 h6 h7 => ?_)
      ·have lo:=l1.2 h5
       generalize AU (CP L) L.length 0=r at *;exact sr 131 [pk (AK 44 103 3 9 ((L).map (Ag c)) ((L).length:Int)),pk (Af 3 ((L).length:Int) 0),pk (Aq 3 ((L).length:Int) 2000),po (hc),pa,pa,pk (As 3 z 0),pl (lo)]
      ·have lo:=l1.1 h5
       rw[h6] at hpa;exact sr 131 [pk (AK 44 103 3 9 ((L).map (Ag c)) ((L).length:Int)),pk (Af 3 ((L).length:Int) 0),pk (Aq 3 ((L).length:Int) 2000),po (hc),pa,pa,pk (As 3 z 0),pl (lo),po (hli),po (hpa),pa]
      ·have lo:=l1.1 h5
       have lo2:=(l2 (PJ h6) (by omega)).2 h7
       rw[h6] at hpa;generalize AU (fun j=>bdC L (j+1)) (L.length - 1) 0=r at *
       exact sr 131 [pk (AK 44 103 3 9 ((L).map (Ag c)) ((L).length:Int)),pk (Af 3 ((L).length:Int) 0),pk (Aq 3 ((L).length:Int) 2000),po (hc),pa,pa,pk (As 3 z 0),pl (lo),po (hli),po (hpa),pa,pl (lo2)]
      ·have lo:=l1.1 h5
       have lo2:=(l2 (PJ h6) (by omega)).1 h7
       rw[h6] at hpa;by_cases h8:AU (rsC L false z) L.length 0=0
       ·have lo3:=l3.1 h8
        rw[h8];exact sr 131 [pk (AK 44 103 3 9 ((L).map (Ag c)) ((L).length:Int)),pk (Af 3 ((L).length:Int) 0),pk (Aq 3 ((L).length:Int) 2000),po (hc),pa,pa,pk (As 3 z 0),pl (lo),po (hli),po (hpa),pa,pl (lo2),pl (lo3)]
       ·have lo3:=l3.2 h8
        generalize AU (rsC L false z) L.length 0=r at *;exact sr 131 [pk (AK 44 103 3 9 ((L).map (Ag c)) ((L).length:Int)),pk (Af 3 ((L).length:Int) 0),pk (Aq 3 ((L).length:Int) 2000),po (hc),pa,pa,pk (As 3 z 0),pl (lo),po (hli),po (hpa),pa,pl (lo2),pl (lo3)]
     ·rw[if_pos (.inr ⟨rfl,hz⟩)]
      exact sr 131 [pk (AK 44 103 3 9 ((L).map (Ag c)) ((L).length:Int)),pk (Af 3 ((L).length:Int) 0),pk (Aq 3 ((L).length:Int) 2000),po (hc),pa,pa,pk (AO 3 z 0)]
    | true =>
     rw[if_neg (by simp)]
     refine tail (fun h5 => ?_) (fun h5 h6 => ?_) (fun h5 h6 h7 => ?_) (fun h5 h6 h7 => ?_)
     ·have lo:=l1.2 h5
      generalize AU (CP L) L.length 0=r at *;exact sr 131 [pk (AK 44 103 3 9 ((L).map (Ag c)) ((L).length:Int)),pk (Af 3 ((L).length:Int) 0),pk (Aq 3 ((L).length:Int) 2000),po (hc),pa,pa,pl (lo)]
     ·have lo:=l1.1 h5
      rw[h6] at hpa;exact sr 131 [pk (AK 44 103 3 9 ((L).map (Ag c)) ((L).length:Int)),pk (Af 3 ((L).length:Int) 0),pk (Aq 3 ((L).length:Int) 2000),po (hc),pa,pa,pl (lo),po (hli),po (hpa),pa]
     ·have lo:=l1.1 h5
      have lo2:=(l2 (PJ h6) (by omega)).2 h7
      rw[h6] at hpa;generalize AU (fun j=>bdC L (j+1)) (L.length - 1) 0=r at *
      exact sr 131 [pk (AK 44 103 3 9 ((L).map (Ag c)) ((L).length:Int)),pk (Af 3 ((L).length:Int) 0),pk (Aq 3 ((L).length:Int) 2000),po (hc),pa,pa,pl (lo),po (hli),po (hpa),pa,pl (lo2)]
     ·have lo:=l1.1 h5
      have lo2:=(l2 (PJ h6) (by omega)).1 h7
      rw[h6] at hpa;by_cases h8:AU (rsC L true z) L.length 0=0
      ·have lo3:=l3.1 h8
       rw[h8];exact sr 131 [pk (AK 44 103 3 9 ((L).map (Ag c)) ((L).length:Int)),pk (Af 3 ((L).length:Int) 0),pk (Aq 3 ((L).length:Int) 2000),po (hc),pa,pa,pl (lo),po (hli),po (hpa),pa,pl (lo2),pl (lo3)]
      ·have lo3:=l3.2 h8
       generalize AU (rsC L true z) L.length 0=r at *;exact sr 131 [pk (AK 44 103 3 9 ((L).map (Ag c)) ((L).length:Int)),pk (Af 3 ((L).length:Int) 0),pk (Aq 3 ((L).length:Int) 2000),po (hc),pa,pa,pl (lo),po (hli),po (hpa),pa,pl (lo2),pl (lo3)]
end
theorem EO {L:List Nd}{m:Nat}(h:prB L m=true):(tat L (2*m+1)).par=((pp L m:Nat):Int)∧(tat L (2*m+2)).par=((pp L m:Nat):Int)∧pp L m≤2*m∧(tat L (2*m+2)).fst=(tat L (2*m+1)).fst∧(tat L (2*m+2)).nxt=(tat L (2*m+1)).nxt:=by
 unfold prB at h;simp only[Bool.and_eq_true,decide_eq_true_eq] at h;obtain ⟨⟨⟨⟨⟨⟨⟨p1,p2⟩,p3⟩,p4⟩,p5⟩,_⟩,_⟩,_⟩:=h;have e:dcn (tat L (2*m+2))=((tat L (2*m+1)).fst,(tat L (2*m+1)).nxt,false):=p5;unfold dcn at e;injection e with e1 e2;injection e2 with e2 e3;unfold pp;refine ⟨by omega,by omega,by omega,e1,e2⟩
section
variable {L:List Nd}{M:Nat}(hn:L.length=2*M+1)(hp : ∀ m,m < M→prB L m=true)
include hn hp
theorem ZL : ∀ m,m≤M → ∀ i,i≤2*m→iat (dlt L m) i=((Be L i).length:Int):=by
 intro m;induction m with
 | zero =>
  intro _ i hi;have:i=0:=by omega
  subst this;rw[dlt,EV,Dx];rfl
 | succ m ih =>
  intro hm i hi;obtain ⟨p1,p2,p3,_,_⟩:=EO (hp m (by omega))
  have hl:=UX L m;have hpp:=ih (by omega) (pp L m) p3
  have ea:(Be L (2*m+1)).length=(Be L (pp L m)).length+1:=by rw[C7 p1 (by omega),List.length_append];rfl
  have eb:(Be L (2*m+2)).length=(Be L (pp L m)).length+1:=by rw[C7 p2 (by omega),List.length_append];rfl
  rw[dlt,Ki (by rw[List.length_set];omega),Ki (by omega),if_pos rfl]
  by_cases h1:2*m+2=i
  ·rw[if_pos h1,←h1,eb,hpp];omega
  ·rw[if_neg h1,Ki (by omega)]
   by_cases h2:2*m+1=i
   ·rw[if_pos h2,←h2,ea,hpp];omega
   ·rw[if_neg h2];exact ih (by omega) i (by omega)
theorem AdW {m:Nat}(hm:m < M):iat (dlt L (m+1)) (2*m+1)=((Be L (2*m+1)).length:Int):=ZL hn hp (m+1) (by omega) _ (by omega)
theorem K0 {m:Nat}(hm:m < M)(i:Nat):iat (clt L (m+1)) i=if pp L m=i then iat (clt L m) i+2 else iat (clt L m) i:=by
 obtain ⟨p1,p2,p3,_,_⟩:=EO (hp m hm);rw[clt,Ki (by rw[Gu];omega)]
 by_cases h:pp L m=i
 ·rw[if_pos h,if_pos h,h]
 ·rw[if_neg h,if_neg h]
theorem Aab : ∀ m,m≤M → ∀ i,iat (clt L m) i % 2=0:=by
 intro m;induction m with
 | zero=>intro _ i;rw[clt,EV];rfl
 | succ m ih =>
  intro hm i;rw[K0 hn hp (by omega)]
  have:=ih (by omega) i
  split <;> omega
theorem Aaa : ∀ m,m≤M → ∀ k,k≤m → ∀ i,iat (clt L k) i≤iat (clt L m) i:=by
 intro m;induction m with
 | zero=>intro _ k hk i;exact (show k=0 by omega)▸Int.le_refl _
 | succ m ih =>
  intro hm k hk i;by_cases h:k=m+1
  ·rw[h];exact Int.le_refl _
  ·have:=ih (by omega) k (by omega) i
   rw[K0 hn hp (by omega)]
   split <;> omega
theorem AbV (h : ∀ m,m < M→iat (clt L (m+1)) (pp L m)≤2) : ∀ m,m≤M → ∀ i,iat (clt L m) i≤2:=by
 intro m;induction m with
 | zero=>intro _ i;rw[clt,EV];omega
 | succ m ih =>
  intro hm i;by_cases hi:pp L m=i
  ·rw[←hi];exact h m (by omega)
  ·rw[K0 hn hp (by omega),if_neg hi];exact ih (by omega) i
end
def GO (D:List De):Prop:=D.Pairwise fun a b => ¬ (a.1=b.1∧a.2.1=b.2.1)
theorem H0 {D:List De}{i:Nat}(h:i < D.length):dat D i=D[i]:=by unfold dat;rw[List.getD_eq_getElem?_getD,List.getElem?_eq_getElem h];rfl
theorem UM {D:List De}{k j:Nat}:inC D k j=0 ↔ ¬ ((dat D j).1=(dat D k).1∧(dat D j).2.1=(dat D k).2.1):=by
 unfold inC QO;by_cases h1:(dat D k).1=(dat D j).1
 ·by_cases h2:(dat D k).2.1=(dat D j).2.1
  ·simp[h1,h2]
  ·simp[h1,h2,Ne.symm h2]
 ·simp[h1,Ne.symm h1]
theorem V8 {D:List De}:AU (miC D) D.length 0=0↔GO D:=by
 unfold GO;rw[Bp,List.pairwise_iff_getElem];constructor
 ·intro h i j hi hj hij
  have h1:=h j (Nat.zero_le _) (by omega)
  unfold miC at h1;rw[Bp] at h1;have h2:=UM.1 (h1 i (Nat.zero_le _) (by omega))
  rw[H0 hi,H0 hj] at h2;exact h2
 ·intro h k _ hk
  unfold miC;rw[Bp];intro j _ hj;rw[UM,H0 (by omega),H0 (by omega)]
  exact h j k (by omega) (by omega) (by omega)
theorem En {D:List De}{x:De}:GO (D++[x])↔GO D ∧ ∀ d∈D,¬ (d.1=x.1∧d.2.1=x.2.1):=by
 unfold GO;rw[List.pairwise_append];constructor
 ·rintro ⟨h1,_,h3⟩
  exact ⟨h1,fun d hd=>h3 d hd x (by simp)⟩
 ·rintro ⟨h1,h2⟩
  refine ⟨h1,by simp,fun d hd y hy => ?_⟩
  simp at hy;subst hy;exact h2 d hd
theorem Ky {L:List Nd}{i:Nat}{f n:Int}:Fb L i f n=false ↔ ∀ d∈Be L i,¬ (d.1=f∧d.2.1=n):=by
 unfold Fb Be C9;rw[List.any_eq_false];constructor
 ·intro h d hd
  rw[List.mem_reverse,List.mem_map] at hd;obtain ⟨x,hx,rfl⟩:=hd;have:=h x hx;simp at this;exact fun hh=>this hh.1 hh.2
 ·intro h x hx
  have:=h (dcn (tat L x)) (by rw[List.mem_reverse,List.mem_map];exact ⟨x,hx,rfl⟩)
  simp;exact fun h1 h2=>this ⟨h1,h2⟩
theorem Me {L:List Nd}{M:Nat}(hn:L.length=2*M+1){i:Nat}(hi:i < L.length):ouC L i=0↔iat (clt L M) i≤2∧((tat L i).st=1↔iat (clt L M) i=2)∧(Be L i).length≤32∧GO (Be L i):=by
 have hM2:L.length / 2=M:=by omega
 unfold ouC cpC;rw[hM2,←V8];by_cases h1:2 < iat (clt L M) i
 ·rw[if_pos h1,if_pos (by decide)]
  exact ⟨fun h=>by omega,fun h=>by omega⟩
 ·rw[if_neg h1]
  by_cases h2:decide ((tat L i).st=1)=decide (iat (clt L M) i=2)
  ·rw[if_pos h2,if_neg (by simp)]
   have h2':(tat L i).st=1↔iat (clt L M) i=2:=by simpa using h2
   by_cases h3:32 < (Be L i).length
   ·rw[if_pos h3]
    exact ⟨fun h=>by omega,fun h=>by omega⟩
   ·rw[if_neg h3]
    exact ⟨fun h=>⟨by omega,h2',by omega,h⟩,fun h=>h.2.2.2⟩
  ·rw[if_neg h2,if_pos (by decide)]
   exact ⟨fun h=>by omega,fun h=>absurd (by simpa using h.2.1) h2⟩
section
variable {L:List Nd}{M:Nat}(hn:L.length=2*M+1)(hp : ∀ m,m < M→prB L m=true)
include hn hp
theorem O2 : (∀ i, i < L.length → GO (Be L i)) ↔ ∀ m, m < M → Fb L (pp L m) (tat L (2 * m + 1)).fst (tat L (2 * m + 1)).nxt = false := by
 constructor
 ·intro h m hm
  obtain ⟨p1,p2,p3,_,_⟩:=EO (hp m hm);have:=h (2*m+1) (by omega)
  rw[C7 p1 (by omega),En] at this
  exact Ky.2 this.2
 ·intro h i
  induction i using Nat.strongRecOn with
  | _ i ih =>
   intro hi;by_cases h0:i=0
   ·subst h0;rw[Dx];exact List.Pairwise.nil
   ·obtain ⟨m,hm⟩ : ∃ m,i=2*m+1∨i=2*m+2:=⟨(i - 1) / 2,by omega⟩
    have hmM:m < M:=by omega
    obtain ⟨p1,p2,p3,p4,p5⟩:=EO (hp m hmM);have hd:=Ky.1 (h m hmM);rcases hm with rfl | rfl
    ·rw[C7 p1 (by omega),En]
     exact ⟨ih _ (by omega) (by omega),hd⟩
    ·rw[C7 p2 (by omega),En]
     refine ⟨ih _ (by omega) (by omega),fun d hd' => ?_⟩
     have:=hd d hd';show ¬ (d.1=(tat L (2*m+2)).fst∧d.2.1=(tat L (2*m+2)).nxt);rw[p4,p5];exact this
theorem JA:(∀ j,j < L.length - 1→bdC L (j+1)=0) ↔ ∀ m,m < M→(tat L (pp L m)).q≤(tat L (2*m+1)).q∧(tat L (pp L m)).q≤(tat L (2*m+2)).q:=by
 have key : ∀ i p:Nat,(tat L i).par=(p:Int)→(bdC L i=0↔(tat L p).q≤(tat L i).q):=by
  intro i p h;unfold bdC;rw[show (tat L i).par.toNat=p by omega]
  by_cases hq:(tat L i).q < (tat L p).q
  ·rw[if_pos hq]
   exact ⟨fun h=>by omega,fun h=>by exfalso;grind⟩
  ·rw[if_neg hq]
   exact ⟨fun _=>by grind,fun _=>rfl⟩
 constructor
 ·intro h m hm
  obtain ⟨p1,p2,p3,_,_⟩:=EO (hp m hm);exact ⟨(key _ _ p1).1 (h (2*m) (by omega)),(key _ _ p2).1 (h (2*m+1) (by omega))⟩
 ·intro h j hj
  obtain ⟨m,hm⟩ : ∃ m,j=2*m∨j=2*m+1:=⟨j / 2,by omega⟩
  have hmM:m < M:=by omega
  obtain ⟨p1,p2,p3,_,_⟩:=EO (hp m hmM);rcases hm with rfl | rfl
  ·exact (key _ _ p1).2 (h m hmM).1
  ·exact (key _ _ p2).2 (h m hmM).2
theorem O6 : ((∀ m, m < M → spB L m = true) ∧ ∀ i, i < L.length → chB L i = true) ↔ ((∀ i, i < L.length → ouC L i = 0) ∧ ∀ j, j < L.length - 1 → bdC L (j + 1) = 0) := by
 have hM2:L.length / 2=M:=by omega
 have sp : ∀ m,m < M→(spB L m=true↔((Be L (2*m+1)).length:Int)≤32∧iat (clt L (m+1)) (pp L m)≤2∧Fb L (pp L m) (tat L (2*m+1)).fst (tat L (2*m+1)).nxt=false∧(tat L (pp L m)).q≤(tat L (2*m+1)).q∧(tat L (pp L m)).q≤(tat L (2*m+2)).q):=by
  intro m hm;unfold spB;rw[AdW hn hp hm];simp only[Bool.and_eq_true,decide_eq_true_eq,Bool.not_eq_true'];exact ⟨fun ⟨⟨⟨⟨a,b⟩,c⟩,d⟩,e⟩=>⟨a,b,c,d,e⟩,fun ⟨a,b,c,d,e⟩=>⟨⟨⟨⟨a,b⟩,c⟩,d⟩,e⟩⟩
 have ch : ∀ i,(chB L i=true↔((tat L i).st=1↔0 < iat (clt L M) i)):=by
  intro i;unfold chB;rw[hM2];by_cases h1:(tat L i).st=1 <;> by_cases h2:0 < iat (clt L M) i <;> simp[h1,h2]
 have two : ∀ i,iat (clt L M) i≤2→(0 < iat (clt L M) i↔iat (clt L M) i=2):=by
  intro i h;have h1:=Aab hn hp M (Nat.le_refl _) i;have h2:=(TO L M i).1;omega
 rw[JA hn hp];constructor
 ·rintro ⟨h1,h2⟩
  have hs:=fun m hm=>(sp m hm).1 (h1 m hm)
  have c2:=AbV hn hp (fun m hm=>(hs m hm).2.1) M (Nat.le_refl _)
  have tw:=(O2 hn hp).2 fun m hm=>(hs m hm).2.2.1
  refine ⟨fun i hi=>(Me hn hi).2 ⟨c2 i,?_,?_,tw i hi⟩,fun m hm=>(hs m hm).2.2.2⟩
  ·rw[←two i (c2 i)];exact (ch i).1 (h2 i hi)
  ·by_cases h0:i=0
   ·subst h0;rw[Dx];exact Nat.zero_le _
   ·obtain ⟨m,hm⟩ : ∃ m,i=2*m+1∨i=2*m+2:=⟨(i - 1) / 2,by omega⟩
    have hmM:m < M:=by omega
    obtain ⟨p1,p2,p3,p4,p5⟩:=EO (hp m hmM);have:=(hs m hmM).1;rcases hm with rfl | rfl
    ·omega
    ·have ea:(Be L (2*m+1)).length=(Be L (pp L m)).length+1:=by rw[C7 p1 (by omega),List.length_append];rfl
     have eb:(Be L (2*m+2)).length=(Be L (pp L m)).length+1:=by rw[C7 p2 (by omega),List.length_append];rfl
     omega
 ·rintro ⟨h1,h2⟩
  have ho:=fun i hi=>(Me hn (i:=i) hi).1 (h1 i hi)
  have tw:=(O2 hn hp).1 fun i hi=>(ho i hi).2.2.2
  refine ⟨fun m hm=>(sp m hm).2 ⟨?_,?_,tw m hm,h2 m hm⟩,fun i hi=>(ch i).2 ?_⟩
  ·have:=(ho (2*m+1) (by omega)).2.2.1
   omega
  ·obtain ⟨p1,p2,p3,p4,p5⟩:=EO (hp m hm)
   have:=(ho (pp L m) (by omega)).1
   have:=Aaa hn hp M (Nat.le_refl _) (m+1) (by omega) (pp L m)
   omega
  ·rw[two i (ho i hi).1];exact (ho i hi).2.1
end
theorem Uq {L:List Nd}:shB L=true↔(rpB L=true∧AU (fun j=>bdC L (j+1)) (L.length - 1) 0=0):=by
 unfold shB rpB;simp only[Bool.and_eq_true,List.all_eq_true,List.mem_range,decide_eq_true_eq,Bp];constructor
 ·rintro ⟨⟨h1,h2⟩,h3⟩
  have hr:=h1;unfold rtB at hr;simp only[Bool.and_eq_true,decide_eq_true_eq] at hr;have hn:L.length=2*(L.length / 2)+1:=by omega
  have:=(O6 hn (fun m hm=>(h2 m hm).1)).1 ⟨fun m hm=>(h2 m hm).2,h3⟩
  exact ⟨⟨⟨h1,fun m hm=>(h2 m hm).1⟩,fun j _ hj=>this.1 j (by omega)⟩,fun j _ hj=>this.2 j (by omega)⟩
 ·rintro ⟨⟨⟨h1,h2⟩,h3⟩,h4⟩
  have hr:=h1;unfold rtB at hr;simp only[Bool.and_eq_true,decide_eq_true_eq] at hr;have hn:L.length=2*(L.length / 2)+1:=by omega
  have:=(O6 hn h2).2 ⟨fun i hi=>h3 i (Nat.zero_le _) (by omega),fun j hj=>h4 j (Nat.zero_le _) (by omega)⟩
  exact ⟨⟨h1,fun m hm=>⟨h2 m hm,this.1 m hm⟩⟩,this.2⟩
theorem LB {a b:Nat→Int} : ∀ {n i:Nat},(∀ j,i≤j→j < i+n→a j=b j)→AU a n i=AU b n i
 | 0,_,_=>rfl
 | n+1,i,h=>by
  unfold AU;rw[h i (Nat.le_refl _) (by omega),LB fun j h1 h2=>h j (by omega) (by omega)]
theorem SQ (L : List Nd) (f : Bool) (z : Int) : rvc L f z = tvc L f z := by
 unfold rvc tvc;by_cases h1:L.length < 1∨2000 < L.length
 ·rw[if_pos h1,if_pos h1]
 ·rw [if_neg h1, if_neg h1]
  by_cases h2:BN z=false∨(z≠0∧f=false)
  ·rw[if_pos h2,if_pos (h2.imp id And.symm)]
  ·rw [if_neg h2, if_neg (fun h => h2 (h.imp id And.symm))]
   by_cases h3:AU (CP L) L.length 0≠0
   ·rw[if_pos h3,if_pos h3]
   ·rw[if_neg h3,if_neg h3]
    have h3:AU (CP L) L.length 0=0:=Decidable.not_not.1 h3;have hst:AU (rsC L f z) L.length 0=AU (VO L f z) L.length 0:=LB fun j _ hj=>by
     have ho:=Bp.1 h3 j (Nat.zero_le _) hj;have hok:okc (tat L j).q=true:=by
      unfold CP at ho;split at ho
      ·omega
      ·cases hk:okc (tat L j).q with
       | true=>rfl
       | false=>rw[hk] at ho;exact absurd ho (by decide)
     unfold rsC VO QB DQ;rw[hok,Bool.true_and]
    have hs:=Uq (L:=L);cases hr:rpB L with
    | false =>
     rw[if_pos rfl];have:shB L=false:=by
      cases hsb:shB L with
      | false=>rfl
      | true=>have:=(hs.1 hsb).1;rw[hr] at this;cases this
     rw[this,if_pos rfl]
    | true =>
     rw[if_neg (by decide)]
     by_cases hb:AU (fun j=>bdC L (j+1)) (L.length - 1) 0=0
     ·rw[if_neg (fun h=>h hb),hs.2 ⟨hr,hb⟩,if_neg (by decide),hst]
     ·have:shB L=false:=by
       cases hsb:shB L with
       | false=>rfl
       | true=>exact absurd (hs.1 hsb).2 hb
      rw[if_pos hb,this,if_pos rfl];obtain ⟨j,_,_,_,hj⟩:=N3 hb;rw[←hj];exact Aao (by rw[hj];exact hb)
section
variable {I:WInv}{c c':Bool}{q:Rat}
theorem Adl:Sp Tryz.prog I 55 [fc true 12 q,fc true 12 q] (lb true):=by
 have h:Sp Tryz.prog I 55 [.ag (ik 12 q.num++ik 12 (q.den:Int)),.ag (ik 12 q.num++ik 12 (q.den:Int))] (lb true):=sr 17 [po (XX (I:=I) (k:=12) (j:=12) (a:=q.num) (b:=q.num) true (decide_eq_true rfl)),po (XX (I:=I) (k:=12) (j:=12) (a:=(q.den:Int)) (b:=(q.den:Int)) true (decide_eq_true rfl))];exact h.wk ⟨Cx,Cx,trivial⟩
def Ac2 (L:List Nd)(f:Bool)(z:Int)(i:Int):Go.Proofs.YtdgbealknnmkoaaGreatDoor.St:=⟨[(2,.p 0 0),(3,.p 1 0),(5,.i i)],[(0,some ⟨46,none,[.b (.it (slI 9 ((L).map (Ag true)))),.o f,.i z]⟩),(1,some ⟨46,none,[.b (.it (slI 9 ((L).map (Ag true)))),.o f,.i z]⟩)],50⟩
theorem XW (L:List Nd)(f:Bool)(z:Int)(hl:L.length≤100000):Sp Tryz.prog I 31 [trT true L f z,trT true L f z] (lb true):=by
 have lo:LoopTr Tryz.prog I 73 (AQ Tryz.prog 31 0) (Ac2 L f z ((0:Nat):Int)) (.exit 0) ⟨[],[],50⟩:=Bz (by simp) (fun i=>Ac2 L f z (i:Int)) L.length (fun i hi=>by
  exact rr [pk (AK 44 103 3 9 ((L).map (Ag true)) ((L).length:Int)),pk (Al 3 (i:Int) ((L).length:Int)),pk (Aj 44 103 9 ((L).map (Ag true)) i (i:Int) ((Ag true) (tat L i)) (AR hi)),pk (Aj 44 103 9 ((L).map (Ag true)) i (i:Int) ((Ag true) (tat L i)) (AR hi)),pk (D7 3 ((tat L i).par) ((tat L i).par) false (decide_eq_true rfl)),pk (AcJ (dcn (tat L i)) (dcn (tat L i)) false (decide_eq_true rfl)),pk (D7 3 ((tat L i).st) ((tat L i).st) false (decide_eq_true rfl)),po (Adl (I:=I) (q:=(tat L i).q)),pa,pk (AA 3 (i:Int) 1 ⟨by omega,by omega⟩)]) (by
  exact rr [pk (AK 44 103 3 9 ((L).map (Ag true)) ((L).length:Int)),pk (Ai 3 (L.length:Int) ((L).length:Int))])
 cases f with
 | false=>exact sr 73 [pk (AK 44 103 3 9 ((L).map (Ag true)) ((L).length:Int)),pk (AK 44 103 3 9 ((L).map (Ag true)) ((L).length:Int)),pk (D7 3 ((L).length:Int) ((L).length:Int) false (decide_eq_true rfl)),pa,pk (D7 3 z z false (decide_eq_true rfl)),pl (lo)]
 | true=>exact sr 73 [pk (AK 44 103 3 9 ((L).map (Ag true)) ((L).length:Int)),pk (AK 44 103 3 9 ((L).map (Ag true)) ((L).length:Int)),pk (D7 3 ((L).length:Int) ((L).length:Int) false (decide_eq_true rfl)),pa,pk (D7 3 z z false (decide_eq_true rfl)),pl (lo)]
def Vb (c:Bool)(L:List Nd)(f:Bool)(z:Int):Nat→Go.Proofs.YtdgbealknnmkoaaGreatDoor.St
 | 0=>⟨[(1,.p 3 0),(2,.p 4 0),(3,.p 10 0),(4,.i ((0:Nat):Int))],[(10,some ⟨46,none,[.z,.o f,.i z]⟩),(3,some ⟨46,none,[.b (.it (slI 9 ((L).map (Ag c)))),.o f,.i z]⟩),(4,some ⟨46,none,[.z,.o false,.i 0]⟩)],50⟩
 | i+1=>⟨[(1,.p 3 0),(2,.p 4 0),(3,.p 10 0),(4,.i ((i+1:Nat):Int))],[(40,some ⟨103,some (9,i+1),Aa ((Cs L id (i+1)).map (Ag true))⟩),(10,some ⟨46,none,[.sl 40,.o f,.i z]⟩),(3,some ⟨46,none,[.b (.it (slI 9 ((L).map (Ag c)))),.o f,.i z]⟩),(4,some ⟨46,none,[.z,.o false,.i 0]⟩)],50⟩
theorem TN (L:List Nd)(f:Bool)(z:Int)(i:Nat)(hi:i < L.length)(hl:L.length≤2002):Rnd Tryz.prog I 34 (AQ Tryz.prog 71 0) (Vb c L f z i) .normal (Vb c L f z (i+1)):=by
 cases i with
 | zero =>
  obtain ⟨i,h0⟩ : ∃ i,i=0:=⟨0,rfl⟩;have e1:Cs L id 0=[]:=rfl;show Rnd Tryz.prog I _ _ ⟨[(1,.p 3 0),(2,.p 4 0),(3,.p 10 0),(4,.i ((0:Nat):Int))],[(10,some ⟨46,none,[.z,.o f,.i z]⟩),(3,some ⟨46,none,[.b (.it (slI 9 ((L).map (Ag c)))),.o f,.i z]⟩),(4,some ⟨46,none,[.z,.o false,.i 0]⟩)],50⟩ _ ⟨[(1,.p 3 0),(2,.p 4 0),(3,.p 10 0),(4,.i ((0+1:Nat):Int))],[(40,some ⟨103,some (9,1),Aa ((Cs L id (0+1)).map (Ag true))⟩),(10,some ⟨46,none,[.sl 40,.o f,.i z]⟩),(3,some ⟨46,none,[.b (.it (slI 9 ((L).map (Ag c)))),.o f,.i z]⟩),(4,some ⟨46,none,[.z,.o false,.i 0]⟩)],50⟩;exact Rnd.nam [(40,71)] (show Rnd _ _ _ _ _ _ ⟨[(1,.p 3 0),(2,.p 4 0),(3,.p 10 0),(4,.i ((0+1:Nat):Int))],[(71,some ⟨103,some (9,1),[.i ((tat L 0).par),.i ((tat L 0).fst),.i ((tat L 0).nxt),.o ((tat L 0).tog),.b (.it (fF true 12 ((tat L 0).q))),.i ((tat L 0).st)]⟩),(10,some ⟨46,none,[.sl 71,.o f,.i z]⟩),(3,some ⟨46,none,[.b (.it (slI 9 ((L).map (Ag c)))),.o f,.i z]⟩),(4,some ⟨46,none,[.z,.o false,.i 0]⟩)],77⟩ from rr [pk (AK 44 103 3 9 ((L).map (Ag c)) ((L).length:Int)),pk (Al 3 0 ((L).length:Int)),pk (Aj 44 103 9 ((L).map (Ag c)) 0 0 ((Ag c) (tat L 0)) (AR hi)),po (BC (I:=I) (c:=c) (k:=12) (p:=(tat L 0).q) (by omega)),⟨.ap 0 1 104,⟨by omega,by simp only[maxLen];omega⟩⟩,pa]) (t:=⟨[(1,.p 3 0),(2,.p 4 0),(3,.p 10 0),(4,.i ((0+1:Nat):Int))],[(40,some ⟨103,some (9,1),Aa ((Cs L id (0+1)).map (Ag true))⟩),(10,some ⟨46,none,[.sl 40,.o f,.i z]⟩),(3,some ⟨46,none,[.b (.it (slI 9 ((L).map (Ag c)))),.o f,.i z]⟩),(4,some ⟨46,none,[.z,.o false,.i 0]⟩)],50⟩) ⟨rfl,TVle.refl,rfl,TVle.refl,rfl,TVle.refl,rfl,TVle.refl,trivial⟩ ⟨rfl,rfl,rfl,ILe.eq (show [.i ((tat L 0).par),.i ((tat L 0).fst),.i ((tat L 0).nxt),.o ((tat L 0).tog),.b (.it (fF true 12 ((tat L 0).q))),.i ((tat L 0).st)]=Aa ((Cs L id (0+1)).map (Ag true)) from rfl),rfl,rfl,rfl,ILe.refl,rfl,rfl,rfl,ILe.refl,rfl,rfl,rfl,ILe.refl,trivial⟩
 | succ i =>
  show Rnd Tryz.prog I _ _ ⟨[(1,.p 3 0),(2,.p 4 0),(3,.p 10 0),(4,.i ((i+1:Nat):Int))],[(40,some ⟨103,some (9,i+1),Aa ((Cs L id (i+1)).map (Ag true))⟩),(10,some ⟨46,none,[.sl 40,.o f,.i z]⟩),(3,some ⟨46,none,[.b (.it (slI 9 ((L).map (Ag c)))),.o f,.i z]⟩),(4,some ⟨46,none,[.z,.o false,.i 0]⟩)],50⟩ _ ⟨[(1,.p 3 0),(2,.p 4 0),(3,.p 10 0),(4,.i ((i+1+1:Nat):Int))],[(40,some ⟨103,some (9,i+1+1),Aa ((Cs L id (i+1+1)).map (Ag true))⟩),(10,some ⟨46,none,[.sl 40,.o f,.i z]⟩),(3,some ⟨46,none,[.b (.it (slI 9 ((L).map (Ag c)))),.o f,.i z]⟩),(4,some ⟨46,none,[.z,.o false,.i 0]⟩)],50⟩;exact Rnd.nam [(40,71)] (show Rnd _ _ _ _ _ _ ⟨[(1,.p 3 0),(2,.p 4 0),(3,.p 10 0),(4,.i ((i+1+1:Nat):Int))],[(71,some ⟨103,some (9,i+1+1),(Aa ((Cs L id (i+1)).map (Ag true)))++([.i ((tat L (i+1)).par),.i ((tat L (i+1)).fst),.i ((tat L (i+1)).nxt),.o ((tat L (i+1)).tog),.b (.it (fF true 12 ((tat L (i+1)).q))),.i ((tat L (i+1)).st)])⟩),(10,some ⟨46,none,[.sl 71,.o f,.i z]⟩),(3,some ⟨46,none,[.b (.it (slI 9 ((L).map (Ag c)))),.o f,.i z]⟩),(4,some ⟨46,none,[.z,.o false,.i 0]⟩)],77⟩ from rr [pk (AK 44 103 3 9 ((L).map (Ag c)) ((L).length:Int)),pk (Al 3 ((i+1:Nat):Int) ((L).length:Int)),pk (Aj 44 103 9 ((L).map (Ag c)) (i+1) ((i+1:Nat):Int) ((Ag c) (tat L (i+1))) (AR hi)),po (BC (I:=I) (c:=c) (k:=12) (p:=(tat L (i+1)).q) (by omega)),⟨.ap (i+1) 1 104,⟨by omega,by simp only[maxLen];omega⟩⟩,pk (AA 3 ((i+1:Nat):Int) 1 ⟨by omega,by omega⟩)]) (t:=⟨[(1,.p 3 0),(2,.p 4 0),(3,.p 10 0),(4,.i ((i+1+1:Nat):Int))],[(40,some ⟨103,some (9,i+1+1),Aa ((Cs L id (i+1+1)).map (Ag true))⟩),(10,some ⟨46,none,[.sl 40,.o f,.i z]⟩),(3,some ⟨46,none,[.b (.it (slI 9 ((L).map (Ag c)))),.o f,.i z]⟩),(4,some ⟨46,none,[.z,.o false,.i 0]⟩)],50⟩) ⟨rfl,TVle.refl,rfl,TVle.refl,rfl,TVle.refl,rfl,TVle.refl,trivial⟩ ⟨rfl,rfl,rfl,ILe.eq (show (Aa ((Cs L id (i+1)).map (Ag true)))++([.i ((tat L (i+1)).par),.i ((tat L (i+1)).fst),.i ((tat L (i+1)).nxt),.o ((tat L (i+1)).tog),.b (.it (fF true 12 ((tat L (i+1)).q))),.i ((tat L (i+1)).st)])=Aa ((Cs L id (i+1+1)).map (Ag true)) from (by rw[DY L id (i+1),List.map_append,CF];rfl)),rfl,rfl,rfl,ILe.refl,rfl,rfl,rfl,ILe.refl,rfl,rfl,rfl,ILe.refl,trivial⟩
theorem Sy (L:List Nd)(f:Bool)(z:Int)(h0:0 < L.length)(hl:L.length≤2002):SpM Tryz.prog I 71 [] [trT c L f z] [(2,some (nbx true L L.length))] (.cv (.ag [.sl 2,.o f,.i z])):=by
 have lo:LoopTr Tryz.prog I 34 (AQ Tryz.prog 71 0) (Vb c L f z 0) (.exit 0) ⟨[(2,.p 4 0),(3,.p 10 0)],[(40,some ⟨103,some (9,L.length),Aa ((L).map (Ag true))⟩),(10,some ⟨46,none,[.sl 40,.o f,.i z]⟩),(4,some ⟨46,none,[.z,.o false,.i 0]⟩)],50⟩:=Bz (by simp) (Vb c L f z) L.length (fun i hi=>TN L f z i hi hl) (by
  obtain ⟨m,hm⟩ : ∃ m,L.length=m+1:=⟨L.length - 1,by omega⟩
  have e:Cs L id (m+1)=L:=by rw[←hm];exact (EW L id).trans (List.map_id L)
  rw[hm];show Rnd Tryz.prog I _ _ ⟨[(1,.p 3 0),(2,.p 4 0),(3,.p 10 0),(4,.i ((m+1:Nat):Int))],[(40,some ⟨103,some (9,m+1),Aa ((Cs L id (m+1)).map (Ag true))⟩),(10,some ⟨46,none,[.sl 40,.o f,.i z]⟩),(3,some ⟨46,none,[.b (.it (slI 9 ((L).map (Ag c)))),.o f,.i z]⟩),(4,some ⟨46,none,[.z,.o false,.i 0]⟩)],50⟩ _ _;rw[e];exact Rnd.nam [] (show Rnd _ _ _ _ _ _ ⟨[(2,.p 4 0),(3,.p 10 0)],[(40,some ⟨103,some (9,m+1),Aa ((L).map (Ag true))⟩),(10,some ⟨46,none,[.sl 40,.o f,.i z]⟩),(4,some ⟨46,none,[.z,.o false,.i 0]⟩)],55⟩ from rr [pk (AK 44 103 3 9 ((L).map (Ag c)) ((L).length:Int)),pk (Ai 3 ((m+1:Nat):Int) ((L).length:Int))]) (t:=⟨[(2,.p 4 0),(3,.p 10 0)],[(40,some ⟨103,some (9,m+1),Aa ((L).map (Ag true))⟩),(10,some ⟨46,none,[.sl 40,.o f,.i z]⟩),(4,some ⟨46,none,[.z,.o false,.i 0]⟩)],50⟩) ⟨rfl,TVle.refl,rfl,TVle.refl,trivial⟩ ⟨rfl,rfl,rfl,ILe.refl,rfl,rfl,rfl,ILe.refl,rfl,rfl,rfl,ILe.refl,trivial⟩)
 generalize L.length=n at *;exact sm 34 [pl (lo),pm ((show Leads I _ ⟨[(2,.p 4 0),(3,.p 10 0)],[(40,some ⟨103,some (9,n),Aa ((L).map (Ag true))⟩),(10,some ⟨46,none,[.sl 40,.o f,.i z]⟩),(4,some ⟨46,none,[.z,.o false,.i 0]⟩)],50⟩ ⟨[(2,.p 4 0),(3,.p 10 0)],[(2,some ⟨103,some (9,n),Aa ((L).map (Ag true))⟩),(10,some ⟨46,none,[.sl 2,.o f,.i z]⟩),(4,some ⟨46,none,[.z,.o false,.i 0]⟩)],50⟩ from AN [(2,40)] ⟨rfl,TVle.refl,rfl,TVle.refl,trivial⟩ ⟨rfl,rfl,rfl,ILe.refl,rfl,rfl,rfl,ILe.refl,rfl,rfl,rfl,ILe.refl,trivial⟩))]
theorem AaS (q:Rat):Sp Tryz.prog I 28 [fc c 12 q] (.cv (trT true (DE q) false 0)):=by
 have h:SpM Tryz.prog I 28 [] [fc c 12 q] [(2,some (nbx true (DE q) 1))] (.cv (.ag [.sl 2,.o false,.i 0])):=sm 8 [po (BC (I:=I) (c:=c) (k:=12) (p:=q) (by omega)),pm ((show Leads I _ ⟨[(2,.p 4 0)],[(8,some ⟨103,some (9,1),[.i (-1),.i 0,.i 0,.o false,.b (.it (fF true 12 q)),.i 0]⟩),(4,some ⟨46,none,[.sl 8,.o false,.i 0]⟩)],11⟩ ⟨[(2,.p 4 0)],[(2,some ⟨103,some (9,1),[.i (-1),.i 0,.i 0,.o false,.b (.it (fF true 12 q)),.i 0]⟩),(4,some ⟨46,none,[.sl 2,.o false,.i 0]⟩)],11⟩ from AN [(2,8)] ⟨rfl,TVle.refl,trivial⟩ ⟨rfl,rfl,rfl,ILe.refl,rfl,rfl,rfl,ILe.refl,trivial⟩))]
 exact h.freeze rfl Ge rfl
end
end Go.Proofs.YtdgbealknnmkoaaGreatDoor
