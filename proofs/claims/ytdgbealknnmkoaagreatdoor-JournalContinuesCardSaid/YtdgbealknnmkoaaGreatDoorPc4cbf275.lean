/- Texts of one proof, put together by a program: each lemma is proved for all values of its variables, under the premises that it states. -/
import Derived.ChangeOld
import Derived.OpenShut
import Derived.ProofKit
import Derived.ShutString
import Derived.Test.YtdgbealknnmkoaaGreatDoorP58aacfb9
set_option linter.unusedVariables false
set_option linter.unusedSimpArgs false
namespace Go.Proofs.YtdgbealknnmkoaaGreatDoor
open Go Go.RowKit
structure Lq (q:Rat) (k:Nat):Prop where
 n:Lim k q.num
 d:Lim k (q.den:Int)
 k0:0 < k
theorem Fk.lq {q1 q2:IntP}{n d:Int}{k:Nat}(h:Fk q1 q2 n d k):Lq (Rat.divInt n d) k:=⟨(Ab9 h).1,(Ab9 h).2,h.k0⟩
theorem Lq.add {p q:Rat}{k j:Nat}(h:Lq p k)(h':Lq q j):Lq (p+q) (k+j+1):=by
 have e:=LX (a:=p.num) (b:=p.den) (c:=q.num) (d:=q.den) (by have:=Kt p;omega) (by have:=Kt q;omega)
 rw[Cj,Cj] at e;rw[←e];exact ⟨Fj ((h.n.mul h'.d).add ((h'.n.mul h.d).mono (by omega))),Ge ((h.d.mul h'.d).mono (by omega)) (by omega),by omega⟩
theorem Lq.neg {p:Rat}{k:Nat}(h:Lq p k):Lq (-p) k:=⟨by rw[Rat.neg_num];exact h.n.neg,by rw[Rat.neg_den];exact h.d,h.k0⟩
theorem Lq.int {z:Int}{k:Nat}(h:Lim k z)(k0:0 < k):Lq (z:Rat) k:=⟨h,Fi k0,k0⟩
abbrev Fg:=Dg×Dg
abbrev W2 (p:Fg):Prop:=W32 p.1.2∧W32 p.2.2
abbrev tS (xs:List Nat):TV:=B0 (.string (AR xs))
abbrev cS (xs:List Nat):CT := .one (.b (.lit (.string (AR xs))))
abbrev cu (x:Nat):CT := .one (.b (.lit (.int .u8 (x:Int))))
def B8 (xs:List Nat):Prop := ∀ x∈xs,x < 256
theorem B8.app {xs ys:List Nat}(h:B8 xs)(h':B8 ys):B8 (xs++ys):=fun x hx=>(List.mem_append.1 hx).elim (h x) (h' x)
theorem B8.take {xs:List Nat}(h:B8 xs)(n:Nat):B8 (xs.take n):=fun x hx=>h x (List.mem_of_mem_take hx)
theorem B8.drop {xs:List Nat}(h:B8 xs)(n:Nat):B8 (xs.drop n):=fun x hx=>h x (List.mem_of_mem_drop hx)
theorem B8.getD {xs:List Nat}(h:B8 xs)(i:Nat):xs.getD i 0 < 256:=by
 rw[List.getD_eq_getElem?_getD];cases hx:xs[i]? with
 | none=>simp
 | some x=>exact h x (List.mem_of_getElem? hx)
theorem B8.bo {xs:List Nat}(h:B8 xs):bytesOf (AR xs)=xs:=Fy xs h
theorem CD (xs:List Nat):(AR xs).data.toList=xs.map UInt8.ofNat:=by simp[AR]
theorem SZ {a b:Nat}(ha:a < 256)(hb:b < 256):UInt8.ofNat a=UInt8.ofNat b↔a=b:=by
 constructor
 ·intro h
  have h:=congrArg UInt8.toNat h;simp only[UInt8.toNat_ofNat'] at h;omega
 ·intro h;rw[h]
theorem Oz {xs ys:List Nat}(hx:B8 xs)(hy:B8 ys):AR xs=AR ys↔xs=ys:=by
 constructor
 ·intro h
  have:=congrArg bytesOf h
  rwa [hx.bo,hy.bo] at this
 ·intro h;rw[h]
theorem M8 {a b:ByteArray}:a.toList=b.toList↔a=b:=by
 constructor
 ·intro h
  rw[ByteArray.toList_eq,ByteArray.toList_eq] at h;exact ByteArray.ext (Array.ext' h)
 ·intro h;rw[h]
def DI (c:Nat):List Nat→Option Nat
 | []=>none
 | x::l=>if x=c then some 0 else (DI c l).map (· + 1)
theorem OL {c:Nat} : ∀ {xs:List Nat} {i:Nat},DI c xs=some i→i < xs.length∧xs.getD i 0=c ∧ ∀ j,j < i→xs.getD j 0≠c
 | [],i,h=>by cases h
 | x::l,i,h=>by
  unfold DI at h;by_cases hx:x=c
  ·rw[if_pos hx] at h
   injection h with h;subst h;exact ⟨by simp,by simpa using hx,fun j hj=>by omega⟩
  ·rw[if_neg hx] at h
   obtain ⟨k,hk,rfl⟩:=Option.map_eq_some_iff.1 h;obtain ⟨h1,h2,h3⟩:=OL hk;refine ⟨by simp;omega,by simpa using h2,fun j hj => ?_⟩
   cases j with
   | zero=>simpa using hx
   | succ j=>simpa using h3 j (by omega)
theorem RL {c:Nat} : ∀ {xs ys:List Nat},(∀ x∈xs,x≠c)→DI c (xs++c::ys)=some xs.length
 | [],ys,h=>by simp[DI]
 | x::l,ys,h=>by
  have hx:=h x (by simp)
  rw[List.cons_append,DI,if_neg hx,RL fun y hy=>h y (by simp[hy])]
  rfl
theorem Qi {c:Nat} : ∀ {xs:List Nat},(∀ x∈xs,x≠c)→DI c xs=none
 | [],h=>rfl
 | x::l,h=>by
  rw[DI,if_neg (h x (by simp)),Qi fun y hy=>h y (by simp[hy])]
  rfl
theorem No {c:Nat}(hc:c < 256) : ∀ {xs:List Nat},B8 xs→Lib.index (xs.map UInt8.ofNat) [UInt8.ofNat c]=match DI c xs with | some i=>(i:Int) | none => -1
 | [],h=>rfl
 | x::l,h=>by
  have ih:=No hc (xs:=l) fun y hy=>h y (by simp[hy])
  rw[Lib.index_one] at ih ⊢;simp only[List.map_cons,Lib.indexByte];unfold DI;by_cases hx:x=c
  ·subst hx;simp
  ·have:(UInt8.ofNat x == UInt8.ofNat c)=false:=by
    rw[beq_eq_false_iff_ne];exact fun h'=>hx ((SZ (h x (by simp)) hc).1 h')
   rw[this,if_neg hx];rw[ih];cases DI c l with
   | none=>simp
   | some i =>
    simp only[Option.map_some];have:((i:Int) == -1)=false:=by rw[beq_eq_false_iff_ne];omega
    simp[this]
section
variable {P:Program}
theorem B6 (t ty:TypeId)(xs:List Nat)(ht:P.underlying t=some .string:=by kernel_rfl):Bx P (.len #[t] ty) [tS xs] (li xs.length):=BE (vs:=[.string (AR xs)]) fun w=>by
 simp[OpK.run,Builtin.len_,AP ht,goInt,BM]
theorem G1 (t:TypeId)(xs ys:List Nat)(h:xs.length+ys.length≤9223372036854775807):Bx P (.bin .add t) [tS xs,tS ys] (tS (xs++ys)):=by
 have:=Adw (P:=P) t (AR xs) (AR ys) (by rw[BM,BM];exact h)
 rw[←Pw] at this;exact this
theorem M9 (t:TypeId)(xs:List Nat)(i:Nat)(z:Int)(hz:z=(i:Int))(hi:i < xs.length)(hx:B8 xs)(ht:P.underlying t=some .string:=by kernel_rfl):Bx P (.idx t) [tS xs,li z] (B0 (.int .u8 ((xs.getD i 0:Nat):Int))):=BE (vs:=[.string (AR xs),.int .i64 z]) fun w=>by
 subst hz;have e:(AR xs)[i]? = some (UInt8.ofNat (xs.getD i 0)):=by
  show (AR xs).data[i]? = _;rw[←Array.getElem?_toList,CD,List.getElem?_map,List.getD_eq_getElem?_getD,List.getElem?_eq_getElem hi]
  rfl
 have hb:=hx.getD i;generalize xs.getD i 0=a at *;simp[OpK.run,Instr.index,asIntOf,AP ht,e];omega
theorem Xt (t:TypeId)(xs ys:List Nat)(b:Bool)(h:decide (xs=ys)=b)(hx:B8 xs)(hy:B8 ys):Bx P (.bin .eql t) [tS xs,tS ys] (lb b):=Adv t _ _ b (by
 subst h;by_cases h:xs=ys
 ·subst h;simp
 ·rw[decide_eq_false h,beq_eq_false_iff_ne]
  exact fun h'=>h ((Oz hx hy).1 (M8.1 h')))
theorem KD (t:TypeId)(xs ys:List Nat)(b:Bool)(h:decide (xs=ys) = !b)(hx:B8 xs)(hy:B8 ys):Bx P (.bin .neq t) [tS xs,tS ys] (lb b):=Adu t _ _ b (by
 rw[←h];by_cases h:xs=ys
 ·subst h;simp
 ·rw[decide_eq_false h,beq_eq_false_iff_ne]
  exact fun h'=>h ((Oz hx hy).1 (M8.1 h')))
abbrev l8 (x:Int):TV:=B0 (.int .u8 x)
theorem TE (t:TypeId)(x y:Int)(b:Bool)(h:decide (x < y)=b):Bx P (.bin .lss t) [l8 x,l8 y] (lb b):=BE (vs:=[.int .u8 x,.int .u8 y]) fun w=>by subst h;simp[OpK.run,eqGuard,binOp,Op.intCmp]
theorem Z4 (t:TypeId)(x y:Int)(b:Bool)(h:decide (y < x)=b):Bx P (.bin .gtr t) [l8 x,l8 y] (lb b):=BE (vs:=[.int .u8 x,.int .u8 y]) fun w=>by subst h;simp[OpK.run,eqGuard,binOp,Op.intCmp]
end
def fF (c:Bool)(k:Nat)(q:Rat):Item where
 n:=4
 T:=fun N w l => ∃ n d l1 l2,l=l1++l2∧(IP (aP k n)).T N w l1∧(IP (aP k d)).T N w l2∧Rat.divInt n d=q∧0 < k∧(c=true→(IP (cP q.num)).T N w l1∧(IP (cP (q.den:Int))).T N w l2)
 step:=fun hw hN ⟨n,d,l1,l2,e,h1,h2,h3,h4,h5⟩=>⟨n,d,l1,l2,e,(IP (aP k n)).step hw hN h1,(IP (aP k d)).step hw hN h2,h3,h4,fun hc=>⟨(IP _).step hw hN (h5 hc).1,(IP _).step hw hN (h5 hc).2⟩⟩
 len:=fun ⟨n,d,l1,l2,e,h1,h2,_⟩=>by rw[e,List.length_append,(IP _).len h1,(IP _).len h2];rfl
 one:=fun ⟨n,d,l1,l2,e,h1,h2,_⟩=>by
  rw[e];intro v hv;rcases List.mem_append.1 hv with hv | hv
  ·exact (IP _).one h1 v hv
  ·exact (IP _).one h2 v hv
abbrev fc (c:Bool)(k:Nat)(q:Rat):CT := .ag [.b (.it (fF c k q))]
abbrev tfc (c:Bool)(k:Nat)(q:Rat):TV := .cv (fc c k q)
theorem AbG {c c':Bool}{k k':Nat}{q q':Rat}(hc:c'=true→c=true)(hk:k≤k')(hq:q=q'):ItLe (fF c k q) (fF c' k' q'):=by
 subst hq;rintro N w l ⟨n,d,l1,l2,e,⟨s1,A1,n1,c1,e1,h1,h1'⟩,⟨s2,A2,n2,c2,e2,h2,h2'⟩,h3,h4,h5⟩;exact ⟨n,d,l1,l2,e,⟨s1,A1,n1,c1,e1,h1,Nat.le_trans h1' hk⟩,⟨s2,A2,n2,c2,e2,h2,Nat.le_trans h2' hk⟩,h3,by omega,fun h=>h5 (hc h)⟩
theorem UF {c c':Bool}{k k':Nat}{q q':Rat}(hc:c'=true→c=true)(hk:k≤k')(hq:q=q'):CTle (fc c k q) (fc c' k' q'):=(ILe.cons (AbG hc hk hq).x ILe.refl).ag
theorem AcJ {c:Bool}{k k':Nat}{q:Rat}(hk:k≤k'):CTle (fc c k q) (fc false k' q):=UF (fun h=>by cases h) hk rfl
theorem UE {c:Bool}{k k':Nat}{q:Rat}(hk:k≤k'):CTle (fc c k q) (fc c k' q):=UF (fun h=>h) hk rfl
theorem Jx {k:Nat}{q:Rat}(h:Lq q k):CTle (frc q) (fc true k q):=by
 rintro N w g v ⟨vs,e,hl⟩;obtain ⟨l1,l2,e2,h1,l3,l4,e3,h2,h3⟩:=hl;have h3:l4=[]:=h3;subst h3;rw[List.append_nil] at e3;subst e3;have g1:(IP (cP q.num)).T N w l1:=h1;have g2:(IP (cP (q.den:Int))).T N w l2:=h2;obtain ⟨s,A,n,c,q1,q2⟩:=h1;obtain ⟨s',A',n',c',q3,q4⟩:=h2;refine ⟨vs,e,vs,[],by simp,⟨q.num,q.den,l1,l2,e2,⟨s,A,n,c,q1,CInt.any q2,CInt.len q2 h.n⟩,⟨s',A',n',c',q3,CInt.any q4,CInt.len q4 h.d⟩,Cj q,h.k0,fun _=>⟨g1,g2⟩⟩,rfl⟩
theorem YC {k:Nat}{q:Rat}:CTle (fc true k q) (frc q):=by
 rintro N w g v ⟨vs,e,hl⟩;obtain ⟨n,d,l1,l2,e1,h1,h2,h3,h4,h5⟩:=C5 hl;obtain ⟨g1,g2⟩:=h5 rfl;exact ⟨vs,e,l1,l2,e1,g1,l2,[],by simp,g2,rfl⟩
abbrev zl:List It:=[.o false,.z,.o false,.z]
theorem Q5 (N:Nat→Prop)(w:World){k:Nat}:(IP (aP k 0)).T N w [.bool false,.slice none 0 0]:=⟨false,none,0,0,rfl,(CInt.zero w).any,Nat.zero_le _⟩
theorem WX:CTle (.ag zl) (fc false 1 0):=by
 rintro N w g v ⟨vs,e,hl⟩;obtain ⟨l1,r1,e1,h1,l2,r2,e2,h2,l3,r3,e3,h3,l4,r4,e4,h4,h5⟩:=hl;have h5:r4=[]:=h5;have h1:l1=[_]:=h1;have h2:l2=[_]:=h2;have h3:l3=[_]:=h3;have h4:l4=[_]:=h4;subst h5 h1 h2 h3 h4 e4 e3 e2 e1;exact ⟨_,e,_,[],rfl,⟨0,0,[.bool false,.slice none 0 0],[.bool false,.slice none 0 0],rfl,Q5 N w,Q5 N w,by rw[Ms];rfl,by omega,fun h=>by cases h⟩,rfl⟩
section
variable {I:WInv}{f:FuncId}{res:TV}{c c':Bool}{k j:Nat}{p q:Rat}
theorem Ko {N:Nat→Prop}{w:World}{v:Value}(h:(fc c k q).sem N w G0 v) : ∃ n d,Lim k n∧Lim k d∧0 < k∧Rat.divInt n d=q∧(fr (aP k n) (aP k d)).sem N w G0 v:=by
 obtain ⟨vs,e,hl⟩:=h;obtain ⟨n,d,l1,l2,e1,h1,h2,h3,h4,h5⟩:=C5 hl;have g1:=h1;have g2:=h2;obtain ⟨s,A,n1,c1,q1,q2,q3⟩:=h1;obtain ⟨s',A',n2,c2,q4,q5,q6⟩:=h2;exact ⟨n,d,q2.lim.mono q3,q5.lim.mono q6,h4,h3,vs,e,l1,l2,e1,g1,l2,[],by simp,g2,rfl⟩
theorem RG (h : ∀ n d,Fk (aP k n) (aP k d) n d k→Rat.divInt n d=q→Sp Tryz.prog I f [fr (aP k n) (aP k d)] res)(hk:k≤262144):Sp Tryz.prog I f [fc c k q] res:=by
 intro N w vs hI hl hv;obtain ⟨v,r,e,h1,h2⟩:=hv;obtain ⟨n,d,a,b,k0,hq,hs⟩:=Ko h1;exact h n d ⟨Ga (by omega),Ga (by omega),a,b,k0,hk⟩ hq N w vs hI hl ⟨v,r,e,hs,h2⟩
theorem AbA (h : ∀ n d n' d',Fk (aP k n) (aP k d) n d k→Fk (aP j n') (aP j d') n' d' j→Rat.divInt n d=p→Rat.divInt n' d'=q→Sp Tryz.prog I f [fr (aP k n) (aP k d),fr (aP j n') (aP j d')] res)(hk:k≤262144)(hj:j≤262144):Sp Tryz.prog I f [fc c k p,fc c' j q] res:=by
 intro N w vs hI hl hv;obtain ⟨v,r,e,h1,v2,r2,e2,h2,h3⟩:=hv;obtain ⟨n,d,a,b,k0,hq,hs⟩:=Ko h1;obtain ⟨n',d',a',b',k0',hq',hs'⟩:=Ko h2;exact h n d n' d' ⟨Ga (by omega),Ga (by omega),a,b,k0,hk⟩ ⟨Ga (by omega),Ga (by omega),a',b',k0',hj⟩ hq hq' N w vs hI hl ⟨v,r,e,hs,v2,r2,e2,hs',h3⟩
theorem AdX (h:k+j≤262144):Sp Tryz.prog I 126 [fc c k p,fc c' j q] (tfc true (k+j+1) (p+q)) :=
 AbA (fun n d n' d' a b e e'=>by subst e e';exact (Abn a b h).rs (Jx (a.lq.add b.lq)).tv) (by omega) (by omega)
theorem TB (r:Int)(hr:CJ p q=r)(h:k+j≤262144):Sp Tryz.prog I 161 [fc c k p,fc c' j q] (li r) :=
 AbA (fun n d n' d' a b e e'=>by subst e e';exact AaW r a b h hr) (by omega) (by omega)
theorem Cp (r:Int)(hr:p.num.sign=r)(h:k≤262144):Sp Tryz.prog I 86 [fc c k p] (li r) :=
 RG (fun n d a e=>by subst e;exact X1 r a hr) h
def kP (k:Nat)(z:Int):IntP:=⟨fun w s A n c=>CInt w s A n c z∧n≤k,fun hw h=>⟨h.1.step hw,h.2⟩⟩
abbrev ik (k:Nat)(z:Int):List It:=ip (kP k z)
theorem Ck {z:Int}(h:k≤1048576):Num (ik k z) z:=by
 intro N w l hl;obtain ⟨s,A,n,c,e,h1,h2⟩:=C5 hl;exact ⟨s,A,n,c,e,h1.any,Nat.le_trans h2 h⟩
theorem Zw {z:Int}:Can (ik k z) z:=by
 intro N w l hl;obtain ⟨s,A,n,c,e,h1,h2⟩:=C5 hl;exact ⟨s,A,n,c,e,h1⟩
theorem Ji {z:Int}(h:Lim k z):CTle (.ag (ic z)) (.ag (ik k z)):=by
 rintro N w g v ⟨vs,e,l1,l2,e1,⟨s,A,n,c,e2,h1⟩,h2⟩;exact ⟨vs,e,l1,l2,e1,⟨s,A,n,c,e2,h1,CInt.len h1 h⟩,h2⟩
theorem CN {k:Nat}{q:Rat}:CTle (fc true k q) (.ag (ik k q.num++ik k (q.den:Int))):=by
 rintro N w g v ⟨vs,e,hl⟩;obtain ⟨n,d,l1,l2,e1,h1,h2,h3,h4,h5⟩:=C5 hl;obtain ⟨g1,g2⟩:=h5 rfl;obtain ⟨s,A,m,c,q1,q2⟩:=g1;obtain ⟨s',A',m',c',q3,q4⟩:=g2;obtain ⟨t,B,i,a,r1,r2,r3⟩:=h1;obtain ⟨t',B',i',a',r4,r5,r6⟩:=h2;rw[q1] at r1;rw[q3] at r4;injection r1 with r1 r7;injection r7 with r7 r8;injection r7 with r7 r9 r10;injection r4 with r4 r11;injection r11 with r11 r12;injection r11 with r11 r13 r14;subst r9 r13;exact ⟨vs,e,l1,l2,e1,⟨s,A,m,c,q1,q2,r3⟩,l2,[],by simp,⟨s',A',m',c',q3,q4,r6⟩,rfl⟩
theorem Y8 {k:Nat}{q:Rat}(h:0 < k):CTle (.ag (ik k q.num++ik k (q.den:Int))) (fc true k q):=by
 rintro N w g v ⟨vs,e,hl⟩;obtain ⟨l1,l2,e2,h1,l3,l4,e3,h2,h3⟩:=hl;have h3:l4=[]:=h3;subst h3;rw[List.append_nil] at e3;subst e3;obtain ⟨s,A,n,c,q1,q2,q5⟩:=h1;obtain ⟨s',A',n',c',q3,q4,q6⟩:=h2;exact ⟨vs,e,vs,[],by simp,⟨q.num,q.den,l1,l2,e2,⟨s,A,n,c,q1,CInt.any q2,q5⟩,⟨s',A',n',c',q3,CInt.any q4,q6⟩,Cj q,h,fun _=>⟨⟨s,A,n,c,q1,q2⟩,⟨s',A',n',c',q3,q4⟩⟩⟩,rfl⟩
theorem US (h:k≤262144):Sp Tryz.prog I 159 [fc c k p] (.cv (.ag (ik (k+1) (clq p)))) :=
 RG (fun n d a e=>by subst e;exact (Zt a).rs (Ji (a.lq.n.neg.fdiv _).neg).tv) h
end
section
variable {I:WInv}{f:FuncId}{res:TV}{k j m:Nat}{a b:Int}
theorem AcC {N:Nat→Prop}{w:World}{g:Gh}{v:Value}(h:(CT.ag (ik k a)).sem N w g v):Lim k a:=by
 obtain ⟨vs,e,l1,l2,e1,⟨s,A,n,c,e2,h1,h2⟩,h3⟩:=h;exact (AInt.lim h1.any).mono h2
theorem AbC (h:Lim k a→Sp Tryz.prog I f [.ag (ik k a)] res):Sp Tryz.prog I f [.ag (ik k a)] res:=by
 intro N w vs hI hl hv;obtain ⟨v,r,e,h1,h2⟩:=hv;exact h (AcC h1) N w vs hI hl ⟨v,r,e,h1,h2⟩
theorem OH (h:Lim k a→Lim j b→Sp Tryz.prog I f [.ag (ik k a),.ag (ik j b)] res):Sp Tryz.prog I f [.ag (ik k a),.ag (ik j b)] res:=by
 intro N w vs hI hl hv;obtain ⟨v,r,e,h1,v2,r2,e2,h2,h3⟩:=hv;exact h (AcC h1) (AcC h2) N w vs hI hl ⟨v,r,e,h1,v2,r2,e2,h2,h3⟩
theorem Aec (h1:k+1≤m)(h2:j+1≤m)(h:m≤1048576):Sp Tryz.prog I 145 [.ag (ik k a),.ag (ik j b)] (.cv (.ag (ik m (a+b)))) :=
 OH fun l1 l2=>(J7 (Ck (by omega)) (Ck (by omega))).rs (Ji (((l1.mono (by omega:k≤m - 1)).add (l2.mono (by omega))).mono (by omega))).tv
theorem Aeb (h:k+j≤1048576):Sp Tryz.prog I 146 [.ag (ik k a),.ag (ik j b)] (.cv (.ag (ik (k+j) (a*b)))) :=
 OH fun l1 l2=>(Fs (Ck (by omega)) (Ck (by omega))).rs (Ji (l1.mul l2)).tv
theorem Ab6 (h1:k+1≤m)(h2:j+1≤m)(h:m≤1048576):Sp Tryz.prog I 188 [.ag (ik k a),.ag (ik j b)] (.cv (.ag (ik m (a+b)))) :=
 OH fun l1 l2=>(XS (Ck (by omega)) (Ck (by omega))).rs (Ji (((l1.mono (by omega:k≤m - 1)).add (l2.mono (by omega))).mono (by omega))).tv
theorem Jd (h:k+j≤1048576):Sp Tryz.prog I 112 [.ag (ik k a),.ag (ik j b)] (.cv (.ag (ik (k+j) (a*b)))) :=
 OH fun l1 l2=>(Ad0 (Ck (by omega)) (Ck (by omega))).rs (Ji (l1.mul l2)).tv
theorem Adz (h:k≤1048576):Sp Tryz.prog I 147 [.ag (ik k a)] (.cv (.ag (ik k (-a)))):=AbC fun l=>(JK (Ck h)).rs (Ji l.neg).tv
theorem XC (r:Int)(hr:a.sign=r)(h:k≤1048576):Sp Tryz.prog I 94 [.ag (ik k a)] (li r):=CG r (Ck h) hr
theorem Ab5 (hk:k≤1048576)(hj:j≤1048576):Sp Tryz.prog I 135 [.ag (ik k a),.ag (ik j b)] (li (CO a b)):=Ad3 _ (Ck hk) (Ck hj) rfl
theorem Uk (a:Int)(h:R64 a):Sp Tryz.prog I 113 [ci a] (.cv (.ag (ik 2 a))):=(FX a h.1 h.2).rs (Ji (RF h)).tv
theorem P6 (r:Bool)(hr:decide (a=b)=r):Sp Tryz.prog I 107 [.ag (ik k a),.ag (ik j b)] (lb r):=ZY r Zw Zw hr
theorem UG {q:Rat}(h:Lq q k):CTle (fc true j q) (fc true k q):=fun N w g v hv=>Jx h N w g v (YC N w g v hv)
end
section
variable {I:WInv}{c c':Bool}{k j:Nat}{p q:Rat}{n d:Int}
theorem KW {q1 q2:IntP}(h1:Num (ip q1) n)(h2:Num (ip q2) d)(hk1:Lim 1048576 n)(hk2:Lim 1048576 d):Sp Tryz.prog I 108 [.ag (ip q1),.ag (ip q2)] (tfr (Rat.divInt n d)):=by
 by_cases hd:d=0
 ·have e:Rat.divInt n d=0:=by subst hd;exact Rat.divInt_zero n
  rw[e];refine Sp.res (res := .cv (.ag (NZ++ic 1))) ?_ fun N w v h=>Om h
  exact sr 53 [po (FX 1 (by omega) (by omega)),po (CG 0 h2 (by rw[hd];rfl))]
 ·by_cases hn:n=0
  ·have e:Rat.divInt n d=0:=by subst hn;exact Rat.zero_divInt d
   rw[e];refine Sp.res (res := .cv (.ag (NZ++ic 1))) ?_ fun N w v h=>Om h
   rcases Int.lt_or_gt_of_ne hd with hdd | hdd
   ·exact sr 53 [po (FX 1 (by omega) (by omega)),po (CG (-1) h2 (Int.sign_eq_neg_one_of_neg hdd)),po (CG 0 h1 (by rw[hn];rfl))]
   ·exact sr 53 [po (FX 1 (by omega) (by omega)),po (CG 1 h2 (Int.sign_eq_one_of_pos hdd)),po (CG 0 h1 (by rw[hn];rfl))]
  ·obtain ⟨sn,hsn,hs2⟩ : ∃ s,n.sign=s∧(s=1∨s = -1):=by
    rcases Int.lt_or_gt_of_ne hn with h | h
    ·exact ⟨_,Int.sign_eq_neg_one_of_neg h,.inr rfl⟩
    ·exact ⟨_,Int.sign_eq_one_of_pos h,.inl rfl⟩
   have ln:=Fj (d:=d) hk1;have ld:=Ge (n:=n) hk2 (by omega)
   rcases Int.lt_or_gt_of_ne hd with hdd | hdd
   ·have m1:Num (ic (-n)) (-n):=Bj hk1.neg (Nat.le_refl _)
    have m2:Num (ic (-d)) (-d):=Bj hk2.neg (Nat.le_refl _);have hp:0 < -d:=by omega
    have hg:=Le (n := -n) (d := -d) (by omega)
    have mg:Num (ic ((Nat.gcd (-n).natAbs (-d).natAbs:Nat):Int)) _:=Bj (Fl hk2.neg (by omega)) (Nat.le_refl _)
    rw[←PI n d] at ln ld ⊢;unfold tfr frc;rw[Dz hp] at ln ⊢;rw[D0 hp] at ld ⊢;have c1:=Bj ln (Nat.le_refl _);have c2:=Bj ld (Nat.le_refl _);rcases hs2 with rfl | rfl <;> exact sr 53 [po (FX 1 (by omega) (by omega)),po (CG (-1) h2 (Int.sign_eq_neg_one_of_neg hdd)),po (CG _ h1 hsn),po (CG (-1) h2 (Int.sign_eq_neg_one_of_neg hdd)),po (JK h1),po (JK h2),po (Ul m1 m2),po (JQ m1 mg hk1.neg (Fl hk2.neg (by omega)) hg),po (JQ m2 mg hk2.neg (Fl hk2.neg (by omega)) hg),po (E4 c1),po (E4 c2)]
   ·have hp:0 < d:=hdd
    have hg:=Le (n:=n) (d:=d) (by omega)
    have mg:Num (ic ((Nat.gcd n.natAbs d.natAbs:Nat):Int)) _:=Bj (Fl hk2 (by omega)) (Nat.le_refl _)
    unfold tfr frc;rw[Dz hp] at ln ⊢;rw[D0 hp] at ld ⊢;have c1:=Bj ln (Nat.le_refl _);have c2:=Bj ld (Nat.le_refl _);rcases hs2 with rfl | rfl <;> exact sr 53 [po (FX 1 (by omega) (by omega)),po (CG 1 h2 (Int.sign_eq_one_of_pos hdd)),po (CG _ h1 hsn),po (CG 1 h2 (Int.sign_eq_one_of_pos hdd)),po (Ul h1 h2),po (JQ h1 mg hk1 (Fl hk2 (by omega)) hg),po (JQ h2 mg hk2 (Fl hk2 (by omega)) hg),po (E4 c1),po (E4 c2)]
theorem Ni {m:Nat}{a b:Int}(hk:k≤m)(hj:j≤m)(h0:0 < m)(hm:m≤262144):Sp Tryz.prog I 108 [.ag (ik k a),.ag (ik j b)] (tfc true m (Rat.divInt a b)) :=
 OH fun l1 l2=>(KW (Ck (by omega)) (Ck (by omega)) (l1.mono (by omega)) (l2.mono (by omega))).rs (Jx (Fk.lq ⟨Ck (k:=k) (by omega),Ck (k:=j) (by omega),l1.mono hk,l2.mono hj,h0,hm⟩)).tv
theorem BJ (h:k≤262144):Sp Tryz.prog I 56 [fc c k p] (tfc true k p) :=
 RG (fun n d a e=>by
  subst e;have r:=(KW (I:=I) a.a a.b a.big.1 a.big.2).rs (Jx a.lq).tv;exact sr 8 [po (r)]) h
theorem Td (h:k≤262144):Sp Tryz.prog I 152 [fc c k p] (tfc true k (-p)) :=
 RG (fun n d a e=>by
  subst e;have r:=KW (I:=I) (Bj a.ln.neg (by have:=a.k1;omega)) a.b (a.ln.neg.mono (by have:=a.k1;omega)) a.big.2
  have l:=a.lq.neg;rw[Rat.neg_divInt] at l ⊢;have r:=r.rs (Jx l).tv;exact sr 9 [po (JK a.a),po (r)]) h
theorem Eu (h:k≤262144):Sp Tryz.prog I 42 [fc c k p] (li p.num.sign):=by
 exact sr 7 [po ((BJ (I:=I) (c:=c) (k:=k) (p:=p) (by omega)).rs (CN (k:=k) (q:=p)).tv),po (XC (I:=I) (k:=k) (a:=p.num) (r:=(p.num).sign) rfl (by omega))]
theorem Adk:Sp Tryz.prog I 151 [fc c 12 p,fc c' 12 q] (tfc true 25 (p+q)):=by
 have e:=LX (a:=p.num) (b:=(p.den:Int)) (c:=q.num) (d:=(q.den:Int)) (by have:=p.den_pos;omega) (by have:=q.den_pos;omega)
 rw[Cj,Cj] at e;rw[←e];exact sr 26 [po ((BJ (I:=I) (c:=c) (k:=12) (p:=p) (by omega)).rs (CN (k:=12) (q:=p)).tv),po ((BJ (I:=I) (c:=c') (k:=12) (p:=q) (by omega)).rs (CN (k:=12) (q:=q)).tv),po (Jd (I:=I) (k:=12) (j:=12) (a:=p.num) (b:=(q.den:Int)) (by omega)),po (Jd (I:=I) (k:=12) (j:=12) (a:=q.num) (b:=(p.den:Int)) (by omega)),po (Ab6 (I:=I) (k:=24) (j:=24) (m:=25) (a:=p.num*(q.den:Int)) (b:=q.num*(p.den:Int)) (by omega) (by omega) (by omega)),po (Jd (I:=I) (k:=12) (j:=12) (a:=(p.den:Int)) (b:=(q.den:Int)) (by omega)),po (Ni (I:=I) (k:=25) (j:=24) (m:=25) (a:=(p.num*(q.den:Int))+(q.num*(p.den:Int))) (b:=(p.den:Int)*(q.den:Int)) (by omega) (by omega) (by omega) (by omega))]
theorem AdO:Sp Tryz.prog I 125 [fc c 12 p,fc c' 12 q] (tfc true 24 (p*q)):=by
 have e:=Aak p.num p.den q.num q.den;rw[Cj,Cj] at e;rw[←e];exact sr 20 [po ((BJ (I:=I) (c:=c) (k:=12) (p:=p) (by omega)).rs (CN (k:=12) (q:=p)).tv),po ((BJ (I:=I) (c:=c') (k:=12) (p:=q) (by omega)).rs (CN (k:=12) (q:=q)).tv),po (Jd (I:=I) (k:=12) (j:=12) (a:=p.num) (b:=q.num) (by omega)),po (Jd (I:=I) (k:=12) (j:=12) (a:=(p.den:Int)) (b:=(q.den:Int)) (by omega)),po (Ni (I:=I) (k:=24) (j:=24) (m:=24) (a:=p.num*q.num) (b:=(p.den:Int)*(q.den:Int)) (by omega) (by omega) (by omega) (by omega))]
theorem AcT:Sp Tryz.prog I 68 [fc c 12 p,fc c' 12 q] (tfc true 24 (p / q)):=by
 have e:=Aal p.num p.den q.num q.den;rw[Cj,Cj] at e;rw[←e];exact sr 20 [po ((BJ (I:=I) (c:=c) (k:=12) (p:=p) (by omega)).rs (CN (k:=12) (q:=p)).tv),po ((BJ (I:=I) (c:=c') (k:=12) (p:=q) (by omega)).rs (CN (k:=12) (q:=q)).tv),po (Jd (I:=I) (k:=12) (j:=12) (a:=p.num) (b:=(q.den:Int)) (by omega)),po (Jd (I:=I) (k:=12) (j:=12) (a:=(p.den:Int)) (b:=q.num) (by omega)),po (Ni (I:=I) (k:=24) (j:=24) (m:=24) (a:=p.num*(q.den:Int)) (b:=(p.den:Int)*q.num) (by omega) (by omega) (by omega) (by omega))]
theorem AbV:Sp Tryz.prog I 117 [fc c 12 p,fc c' 12 q] (tfc true 25 (p - q)):=by
 rw[show p - q=p + -q by grind]
 exact sr 9 [po (Td (I:=I) (c:=c') (k:=12) (p:=q) (by omega)),po (Adk (I:=I) (c:=c) (c':=true) (p:=p) (q := -q))]
theorem Uc:(p - q).num.sign=CJ p q:=by
 unfold CJ;by_cases h1:p < q
 ·rw[if_pos h1]
  have h : ¬ 0≤(p - q).num:=fun h=>by have:=Rat.num_nonneg.1 h;grind
  exact Int.sign_eq_neg_one_of_neg (by omega)
 ·rw[if_neg h1]
  by_cases h2:p=q
  ·rw[if_pos h2,h2,show q - q=0 by grind];rfl
  ·rw[if_neg h2]
   have h : ¬ 0≤(-(p - q)).num:=fun h=>by have:=Rat.num_nonneg.1 h;grind
   rw[Rat.neg_num] at h;exact Int.sign_eq_one_of_pos (by omega)
theorem Qs:Sp Tryz.prog I 74 [fc c 12 p,fc c' 12 q] (li (CJ p q)):=by
 rw[←Uc];exact sr 9 [po (AbV (I:=I) (c:=c) (c':=c') (p:=p) (q:=q)),po (Eu (I:=I) (c:=true) (k:=25) (p:=p - q) (by omega))]
theorem Yu (a:Int)(ha:R64 a):Sp Tryz.prog I 69 [ci a] (tfc true 2 (a:Rat)):=by
 have e:Rat.divInt a 1=(a:Rat):=by rw[Rat.divInt_eq_div,Rat.intCast_one,Rat.div_def];grind
 rw[←e];exact sr 7 [po (Uk (I:=I) a ha),po (Uk (I:=I) 1 ⟨by omega,by omega⟩),po (Ni (I:=I) (k:=2) (j:=2) (m:=2) (a:=a) (b:=1) (by omega) (by omega) (by omega) (by omega))]
theorem Acv {a b:Int}(hk:k≤1048576)(hj:j≤1048576)(hb:b≠0):Sp Tryz.prog I 149 [.ag (ik k a),.ag (ik j b)] (.tu [.ag (ik (k+1) (a.fdiv b)),.ag (ik j (a.fmod b)),ci 0]) :=
 OH fun l1 l2=>(JQ (Ck hk) (Ck hj) (l1.mono (by omega)) (l2.mono (by omega)) hb).rs (QG ⟨Ji (l1.fdiv _),Ji (l2.fmod hb),CTle.refl,trivial⟩)
theorem O5 {a:Int}(hk:k≤1048576):Sp Tryz.prog I 150 [.ag (ik k a)] (.cv (.ag (ik k a))):=AbC fun l=>(E4 (Ck hk)).rs (Ji l).tv
theorem Y5 {p:Rat}:decide ((p.num.fmod (p.den:Int)).sign < 0)=false:=decide_eq_false fun h=>by
 have h1:=Int.sign_neg_iff.1 h;have h2:=p.den_pos;have:=Int.fmod_nonneg_of_pos p.num (b:=(p.den:Int)) (by omega)
 omega
theorem Y7:Sp Tryz.prog I 156 [fc c 12 p] (.cv (.ag (ik 13 (flq p)))):=by
 have hd:(p.den:Int)≠0:=by have:=p.den_pos;omega
 exact sr 25 [po ((BJ (I:=I) (c:=c) (k:=12) (p:=p) (by omega)).rs (CN (k:=12) (q:=p)).tv),po (Acv (I:=I) (k:=12) (j:=12) (a:=p.num) (b:=(p.den:Int)) (by omega) (by omega) hd),po (XC (I:=I) (k:=12) (a:=p.num.fmod (p.den:Int)) (r:=(p.num.fmod (p.den:Int)).sign) rfl (by omega)),pk (CK 3 ((p.num.fmod (p.den:Int)).sign) 0 false Y5),po (O5 (I:=I) (k:=13) (a:=p.num.fdiv (p.den:Int)) (by omega))]
theorem Mm:Sp Tryz.prog I 115 [fc c 12 p] (.cv (.ag (ik 13 (clq p)))):=by
 exact sr 8 [po (Td (I:=I) (c:=c) (k:=12) (p:=p) (by omega)),po (Y7 (I:=I) (c:=true) (p := -p)),po (Adz (I:=I) (k:=13) (a:=flq (-p)) (by omega)),po (O5 (I:=I) (k:=13) (a := -flq (-p)) (by omega))]
theorem ZM {x:List It}{z:Int}(hx:Num x z):Sp Tryz.prog I 158 [.ag x] (.tu [ci (Pt z),ci (Qy z)]):=by
 intro N w vs _ _ hv;obtain ⟨l,rfl,h1⟩:=NN hv;obtain ⟨s,A,n,c,rfl,h2,h3⟩:=hx N w l h1;exact (QI w h2).mono fun e w' he=>⟨_,he.1,⟨_,rfl,_,_,rfl,(rfl:[_]=[_]),_,_,rfl,(rfl:[_]=[_]),rfl⟩,he.2⟩
theorem XP {ds:List Nat}(i:Nat)(h:W32 ds)(hl:ds.length≤1048576):Sp Tryz.prog I 157 [cds ds,ci (i:Int)] (B0 (.int .u64 (ds.getD i 0:Nat))):=by
 intro N w vs _ _ hv;obtain ⟨v,r,rfl,⟨A,c,e1,q1,q2,q3⟩,v2,r2,rfl,h3,h4⟩:=hv;have h3:[v2]=[.int .i64 (i:Int)]:=h3;injection h3 with h3;obtain rfl:r2=[]:=h4;injection e1 with e1;subst e1 h3;exact (E8 (i:=i) w q1 h (by omega)).mono fun e w' he=>⟨_,he.1,(rfl:[_]=[_]),by rw[←he.2];exact Below.refl _ _⟩
theorem Adq (t:TypeId){b:Nat}(hb:b < 4294967296):Bx Tryz.prog (.bin .shl t) [B0 (.int .u64 (b:Int)),B0 (.int .u64 32)] (B0 (.int .u64 ((b:Int)*4294967296))):=BE (vs:=[.int .u64 (b:Int),.int .u64 32]) fun w=>by
 have h:IntKind.u64.wrap ((b:Int)*4294967296)=(b:Int)*4294967296:=IntWalk.u64_in _ (by omega)
 simp[OpK.run,eqGuard,binOp,Op.shift,IntKind.bits,h]
theorem AdK (t:TypeId){a b v:Nat}(ha:a < 4294967296)(hb:b < 4294967296)(hv:v=a+4294967296*b):Bx Tryz.prog (.bin .or t) [B0 (.int .u64 (a:Int)),B0 (.int .u64 ((b:Int)*4294967296))] (B0 (.int .u64 (v:Int))):=BE (vs:=[.int .u64 (a:Int),.int .u64 ((b:Int)*4294967296)]) fun w=>by
 have h:=Ot a b ha hb;rw[←hv] at h;exact congrArg (fun z=>Result.ok (Value.int .u64 z) w) h
theorem Abw (t:TypeId)(x y:Int)(b:Bool)(h:decide (x≤y)=b):Bx Tryz.prog (.bin .leq t) [B0 (.int .u64 x),B0 (.int .u64 y)] (lb b):=BE (vs:=[.int .u64 x,.int .u64 y]) fun w=>by subst h;simp[OpK.run,eqGuard,binOp,Op.intCmp]
theorem Abv (t:TypeId)(x y:Int)(b:Bool)(h:decide (x < y)=b):Bx Tryz.prog (.bin .lss t) [B0 (.int .u64 x),B0 (.int .u64 y)] (lb b):=BE (vs:=[.int .u64 x,.int .u64 y]) fun w=>by subst h;simp[OpK.run,eqGuard,binOp,Op.intCmp]
theorem AdL (x y:Int)(h:IntKind.u64.wrap (-x)=y):Bx Tryz.prog (.un .neg) [B0 (.int .u64 x)] (B0 (.int .u64 y)):=BE (vs:=[.int .u64 x]) fun w=>by
 rw[←Int.zero_sub] at h;simp only[OpK.run,Op.unary,Op.intArith,h]
 rfl
theorem Abx (s d:TypeId)(x y:Int)(hs:Tryz.prog.underlying s=some (.int .u64))(ht:Tryz.prog.underlying d=some (.int .i64))(h:IntKind.i64.wrap x=y):Bx Tryz.prog (.conv s d) [B0 (.int .u64 x)] (li y):=BE (vs:=[.int .u64 x]) fun w=>by
 subst h;simp[OpK.run,convert,Conv.intToInt,AP hs,AP ht]
theorem XA {x:List It}{z:Int}(hx:Num x z):Sp Tryz.prog I 116 [.ag x] (.tu [ci (Pt z),ci (Qy z)]):=by
 refine Sp.sub (args:=[.ag (ip (iy z))]) ?_ fun N w vs ⟨v,l,e,h1,h2⟩=>⟨v,l,e,RJ hx h1,h2⟩
 obtain ⟨s,hs⟩ : ∃ s,decide (z < 0)=s:=⟨_,rfl⟩;have ca:=GC (I:=I) s (B7 z) hs;have lw:=Am z.natAbs;have l0:(Af z.natAbs).length=(Af z.natAbs).length:=rfl;have ln:=GT (P:=Tryz.prog) 22 97 3 (Af z.natAbs) Tryz.underlying22;unfold dz at ca;by_cases h2:2 < (Af z.natAbs).length
 ·obtain ⟨e1,e2⟩:=EF (UU l0 h2)
  rw[e1,e2];exact sr 37 [po ca,pk ln,pk (BY 3 (((Af z.natAbs).length:Nat):Int) 2 (by omega))]
 ·obtain ⟨ev,a1,a2⟩:=Pp l0 (by omega)
  have d0:=XP (I:=I) 0 lw (by omega)
  have d1:=XP (I:=I) 1 lw (by omega)
  have o1:=Adq 143 a2;have o2:=AdK 143 a1 a2 ev;have o3:=Au (P:=Tryz.prog) 3 (((Af z.natAbs).length:Nat):Int) 2 (by omega)
  have hz:z=sgn s z.natAbs:=(Aci hs).symm;have hr:inR z=if s then decide ((z.natAbs:Int)≤9223372036854775808) else decide ((z.natAbs:Int) < 9223372036854775808):=by
   rw[hz,Bw];cases s <;> simp[sgn,Kf,Ke]
  have e1:Pt z=if inR z then z else 0:=rfl
  have e2:Qy z=if inR z then 0 else 5:=rfl
  rw[e1,e2];cases s with
  | true =>
   cases h3:decide ((z.natAbs:Int)≤9223372036854775808) with
   | true =>
    rw[hr];simp only[if_true,h3];have w1:IntKind.i64.wrap (IntKind.u64.wrap (-(z.natAbs:Int)))=z:=(Sy (by rw[Kf];exact h3)).trans hz.symm
    exact sr 37 [po ca,pk ln,pk o3,po d0,po d1,pk o1,pk o2,pk (Abw 143 (z.natAbs:Int) 9223372036854775808 true h3),pk (AdL (z.natAbs:Int) _ rfl),pk (Abx 143 2 _ _ Tryz.underlying143 Tryz.underlying2 w1)]
   | false =>
    rw[hr];simp only[if_true,h3];exact sr 37 [po ca,pk ln,pk o3,po d0,po d1,pk o1,pk o2,pk (Abw 143 (z.natAbs:Int) 9223372036854775808 false h3)]
  | false =>
   cases h3:decide ((z.natAbs:Int) < 9223372036854775808) with
   | true =>
    rw[hr];simp only[Bool.false_eq_true,if_false,if_true,h3];have w1:IntKind.i64.wrap (z.natAbs:Int)=z:=(Sx (by rw[Ke];exact h3)).trans hz.symm
    exact sr 37 [po ca,pk ln,pk o3,po d0,po d1,pk o1,pk o2,pk (Abv 143 (z.natAbs:Int) 9223372036854775808 true h3),pk (Abx 143 2 _ _ Tryz.underlying143 Tryz.underlying2 w1)]
   | false =>
    rw[hr];simp only[Bool.false_eq_true,if_false,h3];exact sr 37 [po ca,pk ln,pk o3,po d0,po d1,pk o1,pk o2,pk (Abv 143 (z.natAbs:Int) 9223372036854775808 false h3)]
def okc (q:Rat):Bool:=decide (-1152921504606846976≤clq q∧clq q≤1152921504606846976)
def civ (q:Rat):Int:=if okc q then clq q else 0
def cie (q:Rat):Int:=if okc q then 0 else 5
theorem Yv {z:Int}(h1 : -1152921504606846976≤z)(h2:z≤1152921504606846976):inR z=true:=by unfold inR;simp;omega
theorem Yw {z:Int}(h:inR z=true) : -9223372036854775808≤z∧z≤9223372036854775807:=by unfold inR at h;simp at h;omega
theorem CF:Sp Tryz.prog I 119 [fc c 12 p] (.tu [ci (civ p),ci (cie p)]):=by
 have t0:=ZM (I:=I) (Ck (k:=13) (z:=clq p) (by omega))
 unfold civ cie;cases hr:inR (clq p) with
 | false =>
  have ho:okc p=false:=by
   cases h:okc p with
   | false=>rfl
   | true=>have h:=of_decide_eq_true h;rw[Yv h.1 h.2] at hr;cases hr
  rw[ho];rw[(EF hr).1,(EF hr).2] at t0;exact sr 23 [po (US (I:=I) (c:=c) (k:=12) (p:=p) (by omega)),po (t0),pa]
 | true =>
  rw[(JF hr).1,(JF hr).2] at t0;obtain ⟨b1,b2⟩:=Yw hr;by_cases h1:clq p < -1152921504606846976
  ·rw[show okc p=false from decide_eq_false (by omega)]
   exact sr 23 [po (US (I:=I) (c:=c) (k:=12) (p:=p) (by omega)),po (t0),pa,pk (Ak 2 (clq p) (-1152921504606846976))]
  ·by_cases h2:clq p > 1152921504606846976
   ·rw[show okc p=false from decide_eq_false (by omega)]
    exact sr 23 [po (US (I:=I) (c:=c) (k:=12) (p:=p) (by omega)),po (t0),pa,pk (Ai 2 (clq p) (-1152921504606846976)),pk (BY 2 (clq p) 1152921504606846976)]
   ·rw[show okc p=true from decide_eq_true (by omega)]
    exact sr 23 [po (US (I:=I) (c:=c) (k:=12) (p:=p) (by omega)),po (t0),pa,pk (Ai 2 (clq p) (-1152921504606846976)),pk (Au 2 (clq p) 1152921504606846976)]
theorem BI:Sp Tryz.prog I 72 [fc c 12 p] (.tu [ci (civ p),ci (cie p)]):=by
 have t0:=XA (I:=I) (Ck (k:=13) (z:=clq p) (by omega))
 unfold civ cie;cases hr:inR (clq p) with
 | false =>
  have ho:okc p=false:=by
   cases h:okc p with
   | false=>rfl
   | true=>have h:=of_decide_eq_true h;rw[Yv h.1 h.2] at hr;cases hr
  rw[ho];rw[(EF hr).1,(EF hr).2] at t0;exact sr 25 [po (Mm (I:=I) (c:=c) (p:=p)),po (t0),pa]
 | true =>
  rw[(JF hr).1,(JF hr).2] at t0;obtain ⟨b1,b2⟩:=Yw hr;by_cases h1:clq p < -1152921504606846976
  ·rw[show okc p=false from decide_eq_false (by omega)]
   exact sr 25 [po (Mm (I:=I) (c:=c) (p:=p)),po (t0),pa,pk (Ak 2 (clq p) (-1152921504606846976))]
  ·by_cases h2:clq p > 1152921504606846976
   ·rw[show okc p=false from decide_eq_false (by omega)]
    exact sr 25 [po (Mm (I:=I) (c:=c) (p:=p)),po (t0),pa,pk (Ai 2 (clq p) (-1152921504606846976)),pk (BY 2 (clq p) 1152921504606846976)]
   ·rw[show okc p=true from decide_eq_true (by omega)]
    exact sr 25 [po (Mm (I:=I) (c:=c) (p:=p)),po (t0),pa,pk (Ai 2 (clq p) (-1152921504606846976)),pk (Au 2 (clq p) 1152921504606846976)]
theorem Yj {g:FuncId}{res:TV}(h:Lq p k→Sp Tryz.prog I g [fc c k p] res)(hk:k≤262144):Sp Tryz.prog I g [fc c k p] res:=by
 intro N w vs hI hl hv;obtain ⟨v,r,e,h1,h2⟩:=hv;obtain ⟨n,d,a,b,k0,hq,hs⟩:=Ko h1;have x1:Fk (aP k n) (aP k d) n d k:=⟨Ga (by omega),Ga (by omega),a,b,k0,hk⟩
 exact h (hq▸x1.lq) N w vs hI hl ⟨v,r,e,h1,h2⟩
theorem Kj:Sp Tryz.prog I 84 [fc c 12 p] (tfc true 12 p):=Yj (fun l=>by
 have s:Sp Tryz.prog I 84 [fc c 12 p] (tfc true 14 (p+0)):=sr 6 [po (Sp.wk (args':=[.ag [.b (.it (fF c 12 p))],.ag [.o false,.z,.o false,.z]]) (AdX (I:=I) (c:=c) (c':=false) (k:=12) (j:=1) (p:=p) (q:=0) (by omega)) ⟨CTle.refl,WX,trivial⟩)]
 rw[Rat.add_zero] at s;exact s.rs (UG l).tv) (by omega)
end
structure Nd where
 par:Int
 fst:Int
 nxt:Int
 tog:Bool
 q:Rat
 st:Int
abbrev Ac (c:Bool)(x:Nd):List It0:=[.lit (.int .i64 x.par),.lit (.int .i64 x.fst),.lit (.int .i64 x.nxt),.lit (.bool x.tog),.it (fF c 12 x.q),.lit (.int .i64 x.st)]
abbrev trI (c:Bool)(L:List Nd):Item:=slI 9 (L.map (Ac c))
def tat (L:List Nd)(i:Nat):Nd:=L.getD i ⟨0,0,0,false,0,0⟩
theorem Dm {L:List Nd}{i:Nat}(h:i < L.length):L[i]? = some (tat L i):=by unfold tat;rw[List.getD_eq_getElem?_getD,List.getElem?_eq_getElem h];rfl
theorem An {L:List Nd}{i:Nat}{f:Nd→List It0}(h:i < L.length):(L.map f)[i]? = some (f (tat L i)):=map_some (Dm h)
abbrev trT (c:Bool)(L:List Nd)(f:Bool)(z:Int):CT := .ag [.b (.it (trI c L)),.o f,.i z]
abbrev ndT (c:Bool)(x:Nd):CT := .ag [.i x.par,.i x.fst,.i x.nxt,.o x.tog,.b (.it (fF c 12 x.q)),.i x.st]
def K9 (L:List Nd)(i:Nat):List Nat :=
 if h:0 < i∧(tat L i).par.toNat < i then i::K9 L (tat L i).par.toNat else []
termination_by i
decreasing_by exact h.2
def Dn (L:List Nd)(m:Nat):Prop := ∀ i,0 < i→i≤m→0≤(tat L i).par∧(tat L i).par < (i:Int)
theorem Dn.nat {L:List Nd}{m i:Nat}(h:Dn L m)(h0:0 < i)(hi:i≤m) : ∃ j:Nat,(tat L i).par=(j:Int)∧j < i:=⟨(tat L i).par.toNat,by have:=h i h0 hi;omega,by have:=h i h0 hi;omega⟩
theorem Pa (L:List Nd):K9 L 0=[]:=by rw[K9];simp
theorem Pb {L:List Nd}{i j:Nat}(h:(tat L i).par=(j:Int))(hj:j < i):K9 L i=i::K9 L j:=by
 rw[K9,dif_pos ⟨by omega,by rw[h];exact hj⟩,h];rfl
def Ev (L:List Nd)(i:Nat)(f n:Int):Bool:=(K9 L i).any fun x=>decide ((tat L x).fst=f)&&decide ((tat L x).nxt=n)
theorem WI (L:List Nd)(f n:Int):Ev L 0 f n=false:=by unfold Ev;rw[Pa];rfl
theorem OT {L:List Nd}{i j:Nat}{f n:Int}(h:(tat L i).par=(j:Int))(hj:j < i):Ev L i f n=((decide ((tat L i).fst=f)&&decide ((tat L i).nxt=n))||Ev L j f n):=by
 unfold Ev;rw[Pb h hj,List.any_cons]
def BG (z:Int):Bool:=decide (-288230376151711744≤z)&&decide (z≤288230376151711744)
def DH (f:Bool)(z:Int)(q:Rat):Bool:=f&&(okc q&&decide (z≤civ q))
section
variable {I:WInv}{c:Bool}
theorem Ml (z:Int):Sp Tryz.prog I 118 [ci z] (lb (BG z)):=by
 unfold BG;by_cases h1 : -288230376151711744≤z
 ·by_cases h2:z≤288230376151711744
  ·rw[decide_eq_true h1,decide_eq_true h2]
   exact sr 9 [pk (Bn 3 z (-288230376151711744)),pk (Ha 3 z 288230376151711744)]
  ·rw[decide_eq_true h1,decide_eq_false h2]
   exact sr 9 [pk (Bn 3 z (-288230376151711744)),pk (J6 3 z 288230376151711744)]
 ·rw[decide_eq_false h1]
  exact sr 9 [pk (Bd 3 z (-288230376151711744))]
theorem EL (z:Int):Sp Tryz.prog I 41 [ci z] (lb (BG z)):=by
 unfold BG;by_cases h1 : -288230376151711744≤z
 ·by_cases h2:z≤288230376151711744
  ·rw[decide_eq_true h1,decide_eq_true h2]
   exact sr 9 [pk (Bn 3 z (-288230376151711744)),pk (Ha 3 z 288230376151711744)]
  ·rw[decide_eq_true h1,decide_eq_false h2]
   exact sr 9 [pk (Bn 3 z (-288230376151711744)),pk (J6 3 z 288230376151711744)]
 ·rw[decide_eq_false h1]
  exact sr 9 [pk (Bd 3 z (-288230376151711744))]
theorem Fx {q:Rat}(h:okc q=true):cie q=0:=by unfold cie;rw[h];rfl
theorem J4 {q:Rat}(h:okc q=false):cie q=5:=by unfold cie;rw[h];rfl
theorem Js (L:List Nd)(f:Bool)(z:Int)(c':Bool)(x:Nd):Sp Tryz.prog I 121 [trT c L f z,ndT c' x] (lb (DH f z x.q)):=by
 unfold DH;cases f with
 | false=>exact sr 25 [po (CF (I:=I) (c:=c') (p:=x.q))]
 | true =>
  cases h:okc x.q with
  | false =>
   have e:=J4 h;exact sr 25 [po (CF (I:=I) (c:=c') (p:=x.q)),pk (Ag 32 (cie x.q) 0)]
  | true =>
   have e:=Fx h;by_cases h2:z≤civ x.q
   ·rw[decide_eq_true h2]
    exact sr 25 [po (CF (I:=I) (c:=c') (p:=x.q)),pk (Ar 32 (cie x.q) 0),pk (Bn 3 (civ x.q) z)]
   ·rw[decide_eq_false h2]
    exact sr 25 [po (CF (I:=I) (c:=c') (p:=x.q)),pk (Ar 32 (cie x.q) 0),pk (Bd 3 (civ x.q) z)]
def Jl (c:Bool)(L:List Nd)(f:Bool)(z x y k:Int):Go.Proofs.YtdgbealknnmkoaaGreatDoor.St:=⟨[(4,.p 0 0),(2,.i x),(3,.i y),(9,.i k)],[(0,some ⟨46,none,[.b (.it (slI 9 ((L).map (Ac c)))),.o f,.i z]⟩)],50⟩
theorem NC (L : List Nd) (f : Bool) (z : Int) (node : Nat) (x y : Int) (hD : Dn L node) (hn : node < L.length) : Sp Tryz.prog I 160 [trT c L f z, ci (node : Int), ci x, ci y] (lb (Ev L node x y)) := by
 have rd : ∀ i j:Nat,0 < i→i≤node→(tat L i).par=(j:Int)→(decide ((tat L i).fst=x)&&decide ((tat L i).nxt=y))=false→Rnd Tryz.prog I 36 (AK Tryz.prog 160 0) (Jl c L f z x y (i:Int)) .normal (Jl c L f z x y (j:Int)):=by
  intro i j h0 hle hj hno;have hi:i < L.length:=by omega
  by_cases h1:(tat L i).fst=x
  ·have h2 : ¬ (tat L i).nxt=y:=fun h2=>by rw[decide_eq_true h1,decide_eq_true h2] at hno;cases hno
   have r:Rnd Tryz.prog I 36 (AK Tryz.prog 160 0) (Jl c L f z x y (i:Int)) .normal (Jl c L f z x y (tat L i).par):=rr [pk (BY 3 (i:Int) 0),pk (Aj 44 103 9 ((L).map (Ac c)) i (i:Int) ((Ac c) (tat L i)) (An hi)),pk (AO 3 ((tat L i).fst) x true (decide_eq_true h1)),pk (AO 3 ((tat L i).nxt) y false (decide_eq_false h2)),pk (Aj 44 103 9 ((L).map (Ac c)) i (i:Int) ((Ac c) (tat L i)) (An hi))];rw[hj] at r;exact r
  ·have r:Rnd Tryz.prog I 36 (AK Tryz.prog 160 0) (Jl c L f z x y (i:Int)) .normal (Jl c L f z x y (tat L i).par):=rr [pk (BY 3 (i:Int) 0),pk (Aj 44 103 9 ((L).map (Ac c)) i (i:Int) ((Ac c) (tat L i)) (An hi)),pk (AO 3 ((tat L i).fst) x false (decide_eq_false h1)),pk (Aj 44 103 9 ((L).map (Ac c)) i (i:Int) ((Ac c) (tat L i)) (An hi))]
   rw[hj] at r;exact r
 cases hd:Ev L node x y with
 | false =>
  have lo:LoopTr Tryz.prog I 36 (AK Tryz.prog 160 0) (Jl c L f z x y (node:Int)) (.exit 0) ⟨[],[],50⟩:=by
   refine Ka (ι:=Nat) (by simp) (fun i=>Jl c L f z x y (i:Int)) id (fun i=>i≤node∧Ev L i x y=false) node ⟨Nat.le_refl _,hd⟩ ?_
   rintro i ⟨h1,h2⟩;by_cases h0:i=0
   ·subst h0
    right;exact rr [pk (Au 3 ((0:Nat):Int) 0)]
   ·left
    obtain ⟨j,hj,hlt⟩:=hD.nat (Nat.pos_of_ne_zero h0) h1;rw[OT hj hlt,Bool.or_eq_false_iff] at h2;exact ⟨j,⟨by omega,h2.2⟩,hlt,rd i j (Nat.pos_of_ne_zero h0) h1 hj h2.1⟩
  exact sr 36 [pl (lo)]
 | true =>
  have lo:LoopTr Tryz.prog I 36 (AK Tryz.prog 160 0) (Jl c L f z x y (node:Int)) .ret ⟨[(8,lb true)],[],50⟩:=by
   refine Ka (ι:=Nat) (by simp) (fun i=>Jl c L f z x y (i:Int)) id (fun i=>i≤node∧Ev L i x y=true) node ⟨Nat.le_refl _,hd⟩ ?_
   rintro i ⟨h1,h2⟩;by_cases h0:i=0
   ·subst h0;rw[WI] at h2;cases h2
   ·obtain ⟨j,hj,hlt⟩:=hD.nat (Nat.pos_of_ne_zero h0) h1
    cases hno:(decide ((tat L i).fst=x)&&decide ((tat L i).nxt=y)) with
    | false =>
     left;rw[OT hj hlt,hno,Bool.false_or] at h2;exact ⟨j,⟨by omega,h2⟩,hlt,rd i j (Nat.pos_of_ne_zero h0) h1 hj hno⟩
    | true =>
     right;rw[Bool.and_eq_true] at hno;have hi:i < L.length:=by omega
     exact rr [pk (BY 3 (i:Int) 0),pk (Aj 44 103 9 ((L).map (Ac c)) i (i:Int) ((Ac c) (tat L i)) (An hi)),pk (AO 3 ((tat L i).fst) x true hno.1),pk (AO 3 ((tat L i).nxt) y true hno.2)]
  exact sr 36 [pl (lo)]
end
abbrev De:=Int×Int×Bool
abbrev AA (x:De):List It0:=[.lit (.int .i64 x.1),.lit (.int .i64 x.2.1),.lit (.bool x.2.2)]
abbrev deI (D:List De):Item:=slI 3 (D.map AA)
def dat (D:List De)(i:Nat):De:=D.getD i (0,0,false)
theorem NE {D:List De}{i:Nat}(h:i < D.length):D[i]? = some (dat D i):=by unfold dat;rw[List.getD_eq_getElem?_getD,List.getElem?_eq_getElem h];rfl
theorem AW {D:List De}{i:Nat}{f:De→List It0}(h:i < D.length):(D.map f)[i]? = some (f (dat D i)):=map_some (NE h)
def swp (D:List De):Nat→List De
 | 0=>D
 | i+1=>((swp D i).set i (dat (swp D i) (D.length - 1 - i))).set (D.length - 1 - i) (dat (swp D i) i)
theorem JG (D:List De) : ∀ i,(swp D i).length=D.length
 | 0=>rfl
 | i+1=>by rw[swp,List.length_set,List.length_set,JG D i]
theorem TX (D:List De) : ∀ i,2*i≤D.length → ∀ x,x < D.length→(swp D i)[x]? = if x < i∨D.length≤x+i then D[D.length - 1 - x]? else D[x]?
 | 0,_,x,hx=>by rw[if_neg (by omega)];rfl
 | i+1,hi,x,hx=>by
  have h1:=TX D i (by omega)
  have hl:=JG D i;rw[swp,List.getElem?_set,List.getElem?_set,List.length_set,hl];have e1:(swp D i)[D.length - 1 - i]? = some (dat (swp D i) (D.length - 1 - i)):=NE (by rw[hl];omega)
  have e2:(swp D i)[i]? = some (dat (swp D i) i):=NE (by rw[hl];omega)
  rw[h1 _ (by omega),if_neg (by omega)] at e1 e2
  by_cases h2:D.length - 1 - i=x
  ·rw[if_pos h2,if_pos (by omega),if_pos (by omega),←e2,show D.length - 1 - x=i by omega]
  ·rw[if_neg h2]
   by_cases h3:i=x
   ·rw[if_pos h3,if_pos (by omega),if_pos (by omega),←e1,show D.length - 1 - x=D.length - 1 - i by omega]
   ·rw[if_neg h3,h1 x hx]
    by_cases h4:x < i∨D.length≤x+i
    ·rw[if_pos h4,if_pos (by omega)]
    ·rw[if_neg h4,if_neg (by omega)]
theorem ZP (D:List De):swp D (D.length / 2)=D.reverse:=by
 apply List.ext_getElem?;intro x;by_cases hx:x < D.length
 ·rw[TX D _ (by omega) x hx,List.getElem?_reverse hx]
  by_cases h:x < D.length / 2∨D.length≤x+D.length / 2
  ·rw[if_pos h]
  ·rw[if_neg h,show D.length - 1 - x=x by omega]
 ·rw[List.getElem?_eq_none (by rw[JG];omega),List.getElem?_eq_none (by rw[List.length_reverse];omega)]
theorem PC {D:List De} : ∀ r∈D.map AA,Ce r=3:=by intro r hr;obtain ⟨x,_,rfl⟩:=List.mem_map.1 hr;rfl
theorem PD {D:List De}:okR 3 (D.map AA):=by
 intro r hr;obtain ⟨x,_,rfl⟩:=List.mem_map.1 hr;refine ⟨rfl,fun y hy => ?_⟩
 simp at hy;rcases hy with rfl | rfl | rfl <;> exact Nat.one_pos
theorem TO {D:List De}{i:Nat}(h:i < D.length)(x:De):EE (Aa (D.map AA)) (i*3) [.i x.1,.i x.2.1,.o x.2.2]=some (Aa ((D.set i x).map AA)):=by
 have:=JC (sz:=3) (r:=AA (dat D i)) (r':=AA x) (new:=[.i x.1,.i x.2.1,.o x.2.2]) (AW (f:=AA) h) PD (fo:=0) rfl;rw[←List.map_set] at this;exact this
def Um (D:List De)(n:Nat)(a b:Int):Go.Proofs.YtdgbealknnmkoaaGreatDoor.St:=⟨[(0,.s 0),(2,.i a),(3,.i b)],[(0,some ⟨101,some (3,n),Aa ((D).map AA)⟩)],50⟩
section
variable {I:WInv}{c:Bool}
theorem Ra (D:List De)(hl:D.length≤1000000):SpM Tryz.prog I 190 [(0,some ⟨101,some (3,D.length),Aa (D.map AA)⟩)] [.one (.sl 0)] [(0,some ⟨101,some (3,D.length),Aa (D.reverse.map AA)⟩)] (.tu []):=by
 obtain ⟨n,hn⟩ : ∃ n,D.length=n:=⟨_,rfl⟩;rw[hn];have lo:LoopTr Tryz.prog I 28 (AK Tryz.prog 190 0) (Um (swp D 0) n ((0:Nat):Int) ((n:Int) - 1 - ((0:Nat):Int))) (.exit 0) ⟨[(0,.s 0)],[(0,some ⟨101,some (3,n),Aa ((D.reverse).map AA)⟩)],50⟩:=by
  refine Bq (by simp) (fun i=>Um (swp D i) n (i:Int) ((n:Int) - 1 - (i:Int))) (n / 2) (fun i hi => ?_) ?_
  ·have h1:i < (swp D i).length:=by rw[JG];omega
   have h2:n - 1 - i < (swp D i).length:=by rw[JG];omega
   have r:Rnd Tryz.prog I 28 (AK Tryz.prog 190 0) (Um (swp D i) n (i:Int) ((n:Int) - 1 - (i:Int))) .normal (Um (((swp D i).set i (dat (swp D i) (n - 1 - i))).set (n - 1 - i) (dat (swp D i) i)) n ((i:Int)+1) ((n:Int) - 1 - (i:Int) - 1)) :=
    Rnd.cut (n:=50) (show Rnd _ _ _ _ _ _ ⟨[(0,.s 0),(2,.i ((i:Int)+1)),(3,.i (((n:Int) - 1 - (i:Int)) - 1))],[(0,some ⟨101,some (3,n),Aa ((((swp D i).set i (dat (swp D i) (n - 1 - i))).set (n - 1 - i) (dat (swp D i) i)).map AA)⟩)],75⟩ from rr [pk (Ak 3 (i:Int) ((n:Int) - 1 - (i:Int))),⟨.ix ((n:Int) - 1 - (i:Int)) (n - 1 - i) n,⟨by omega,by omega⟩⟩,⟨.part (Aa ((swp D i).map AA)) ((n - 1 - i)*3) 3 [.i ((dat (swp D i) (n - 1 - i)).1),.i ((dat (swp D i) (n - 1 - i)).2.1),.o ((dat (swp D i) (n - 1 - i)).2.2)],(Hg (sz:=3) (r:=AA (dat (swp D i) (n - 1 - i))) (AW h2) PD (fo:=0) (n:=3) rfl)⟩,⟨.ix (i:Int) i n,⟨by omega,by omega⟩⟩,⟨.part (Aa ((swp D i).map AA)) (i*3) 3 [.i ((dat (swp D i) i).1),.i ((dat (swp D i) i).2.1),.o ((dat (swp D i) i).2.2)],(Hg (sz:=3) (r:=AA (dat (swp D i) i)) (AW h1) PD (fo:=0) (n:=3) rfl)⟩,⟨.ix (i:Int) i n,⟨by omega,by omega⟩⟩,⟨.upd (Aa ((swp D i).map AA)) (i*3) [.i ((dat (swp D i) (n - 1 - i)).1),.i ((dat (swp D i) (n - 1 - i)).2.1),.o ((dat (swp D i) (n - 1 - i)).2.2)] (Aa (((swp D i).set i (dat (swp D i) (n - 1 - i))).map AA)),(TO h1 (dat (swp D i) (n - 1 - i)))⟩,⟨.ix ((n:Int) - 1 - (i:Int)) (n - 1 - i) n,⟨by omega,by omega⟩⟩,⟨.upd (Aa (((swp D i).set i (dat (swp D i) (n - 1 - i))).map AA)) ((n - 1 - i)*3) [.i ((dat (swp D i) i).1),.i ((dat (swp D i) i).2.1),.o ((dat (swp D i) i).2.2)] (Aa ((((swp D i).set i (dat (swp D i) (n - 1 - i))).set (n - 1 - i) (dat (swp D i) i)).map AA)),(TO (by rw[List.length_set];exact h2) (dat (swp D i) i))⟩,pk (Ay 3 (i:Int) 1 ⟨by omega,by omega⟩),pk (Sz 3 ((n:Int) - 1 - (i:Int)) 1 ⟨by omega,by omega⟩)]) rfl
   have e:((swp D i).set i (dat (swp D i) (n - 1 - i))).set (n - 1 - i) (dat (swp D i) i)=swp D (i+1):=by rw[swp,hn]
   rw[e,show (n:Int) - 1 - (i:Int) - 1=(n:Int) - 1 - ((i+1:Nat):Int) by omega] at r
   exact r
  ·have e:=ZP D
   rw[hn] at e;rw[e];exact Rnd.cut (n:=50) (show Rnd _ _ _ _ _ _ ⟨[(0,.s 0)],[(0,some ⟨101,some (3,n),Aa ((D.reverse).map AA)⟩)],53⟩ from rr [pk (Ai 3 ((n / 2:Nat):Int) ((n:Int) - 1 - ((n / 2:Nat):Int)))]) rfl
 rw[show (n:Int) - 1 - ((0:Nat):Int)=(n:Int) - 1 by omega] at lo
 exact sm 28 [pk (Sz 3 (n:Nat) 1 ⟨by omega,by omega⟩),pl (lo)]
def dcn (x:Nd):De:=(x.fst,x.nxt,x.tog)
def Cx (L:List Nd)(i:Nat):List De:=(K9 L i).map fun x=>dcn (tat L x)
theorem M0 (L:List Nd):Cx L 0=[]:=by unfold Cx;rw[Pa];rfl
theorem M1 {L:List Nd}{i j:Nat}(h:(tat L i).par=(j:Int))(hj:j < i):Cx L i=dcn (tat L i)::Cx L j:=by unfold Cx;rw[Pb h hj,List.map_cons]
theorem Z9 (L:List Nd)(i:Nat):(K9 L i).length≤i:=by
 induction i using Nat.strongRecOn with
 | _ i ih =>
  rw[K9];by_cases h:0 < i∧(tat L i).par.toNat < i
  ·rw[dif_pos h,List.length_cons]
   have:=ih _ h.2;omega
  ·rw[dif_neg h];exact Nat.zero_le _
theorem KB (L:List Nd)(i:Nat):(Cx L i).length≤i:=by unfold Cx;rw[List.length_map];exact Z9 L i
def Ba (L:List Nd)(i:Nat):List De:=(Cx L i).reverse
theorem Ye {nt t k nx:Nat}{E:Env}{B:Bxs}(T s:Nat)(h:(avE k E&&avB k B&&Nat.blt k nx&&Nat.ble 4 k)=true)(hB:AE B nx=none):Leads I nt ⟨(t,B0 (.slice none 0 0))::E,B,nx⟩ ⟨(t,.s k)::E,(k,some ⟨T,some (s,0),[]⟩)::B,nx+1⟩:=by
 simp only[Bool.and_eq_true] at h;have:=Nat.le_of_ble_eq_true h.2;exact (OA T s).trans (KL (k:=k) h.1.1.1 h.1.1.2 rfl (Nat.lt_succ_of_lt (Fa h.1.2)) hB)
def Nb (c:Bool)(L:List Nd)(f:Bool)(z:Int)(C:List De)(k:Int):Go.Proofs.YtdgbealknnmkoaaGreatDoor.St:=⟨[(5,.s 40),(2,.p 0 0),(6,.i k)],[(40,some ⟨101,some (3,((C).map AA).length),Aa ((C).map AA)⟩),(0,some ⟨46,none,[.b (.it (slI 9 ((L).map (Ac c)))),.o f,.i z]⟩)],50⟩
theorem VS (L:List Nd)(f:Bool)(z:Int)(node:Nat)(hD:Dn L node)(hn:node < L.length)(hl:L.length≤1000000):LoopTr Tryz.prog I 28 (AK Tryz.prog 162 0) (Nb c L f z [] (node:Int)) (.exit 0) ⟨[(5,.s 40)],[(40,some ⟨101,some (3,((Cx L node).map AA).length),Aa ((Cx L node).map AA)⟩)],50⟩:=by
 refine Ka (ι:=Nat×List De) (by simp) (fun x=>Nb c L f z x.2 (x.1:Int)) (·.1) (fun x=>x.1≤node∧x.2++Cx L x.1=Cx L node) (node,[]) ⟨Nat.le_refl _,rfl⟩ ?_
 rintro ⟨i,C⟩ ⟨h1,h2⟩
 dsimp only at h1 h2 ⊢
 by_cases h0:i=0
 ·subst h0
  right;rw[M0,List.append_nil] at h2;subst h2;exact Rnd.cut (n:=50) (show Rnd _ _ _ _ _ _ ⟨[(5,.s 40)],[(40,some ⟨101,some (3,((Cx L node).map AA).length),Aa ((Cx L node).map AA)⟩)],52⟩ from rr [pk (Au 3 ((0:Nat):Int) 0)]) rfl
 ·left
  obtain ⟨j,hj,hlt⟩:=hD.nat (Nat.pos_of_ne_zero h0) h1;rw[M1 hj hlt] at h2;refine ⟨(j,C++[dcn (tat L i)]),⟨by dsimp only;omega,by dsimp only;rw[List.append_assoc];exact h2⟩,hlt,?_⟩
  have hi:i < L.length:=by omega
  have hlen:C.length≤node:=by
   have e:=congrArg List.length h2;have:=KB L node;rw[List.length_append] at e;omega
  have r:Rnd Tryz.prog I 28 (AK Tryz.prog 162 0) (Nb c L f z C (i:Int)) .normal (Nb c L f z (C++[dcn (tat L i)]) (tat L i).par):=by
   unfold Nb;rw[List.map_append,List.map_singleton];exact Rnd.grow (k:=40) (n:=50) (rows:=C.map AA) (row:=AA (dcn (tat L i))) (show Rnd _ _ _ _ _ _ ⟨[(5,.s 60),(2,.p 0 0),(6,.i ((tat L i).par))],[(60,some ⟨101,some (3,(C.map AA).length+1),Aa (C.map AA)++(AA (dcn (tat L i)):List It0).map It.b⟩),(0,some ⟨46,none,[.b (.it (slI 9 ((L).map (Ac c)))),.o f,.i z]⟩)],69⟩ from rr [pk (BY 3 (i:Int) 0),pk (Aj 44 103 9 ((L).map (Ac c)) i (i:Int) ((Ac c) (tat L i)) (An hi)),⟨.ap (((C).map AA).length) 1 24,⟨by rw[List.length_map];omega,by rw[List.length_map];simp[maxLen];omega⟩⟩,pk (Aj 44 103 9 ((L).map (Ac c)) i (i:Int) ((Ac c) (tat L i)) (An hi))]) rfl rfl
  rw[hj] at r;exact r
theorem Aap (L:List Nd)(f:Bool)(z:Int)(node:Nat)(hD:Dn L node)(hn:node < L.length)(hl:L.length≤1000000):Sp Tryz.prog I 162 [trT c L f z,ci (node:Int)] (.t (deI (Ba L node))):=by
 have hlen:=KB L node;have lo:=LoopTr.pre (Ye (nx:=49) (t:=5) (k:=40) (E:=[(2,.p 0 0),(6,li (node:Int))]) (B:=[(0,some ⟨46,none,[.b (.it (trI c L)),.o f,.i z]⟩)]) 101 3 rfl rfl) (VS (I:=I) (c:=c) L f z node hD hn hl);rw[List.length_map] at lo;unfold Ba;generalize Cx L node=D at *;exact sr 28 [pl (lo),pom [40] (Ra (I:=I) (D) (by omega)),pm (AX (I:=I) (nt:=28) (t:=5) (k:=40) (E:=[]) (B:=[]) (nx:=200) (T:=101) (n:=D.length) ((D.reverse).map AA) rfl (by simp) PC rfl)]
end
def It.sub0 (i:Item):It→It
 | .sl _ => .b (.it i)
 | x=>x
def CT.sub0 (i:Item):CT→CT
 | .one x => .one (x.sub0 i)
 | .ag l => .ag (l.map (It.sub0 i))
def It.ok0:It→Bool
 | .sl k=>Nat.beq k 0
 | .ptr _ _=>false
 | .clo _ _=>false
 | _=>true
def CT.ok0:CT→Bool
 | .one x=>x.ok0
 | .ag l=>l.all It.ok0
section
variable {P:Program}{I:WInv}{N N1:Nat→Prop}{w:World}{g:Gh}{i:Item}
theorem It.sub0_sem (hN : ∀ b,N b→N1 b)(hs : ∀ l,(It.sl 0).sem N w g l→i.T N1 w l){x:It}{l:List Value}(hx:x.ok0=true)(h:x.sem N w g l):(x.sub0 i).sem N1 w G0 l:=by
 cases x with
 | b x=>exact It0.step h (WStep.refl _ _) hN
 | ptr k off=>cases hx
 | clo f p=>cases hx
 | fp x=>obtain ⟨b,off,h1,h2⟩:=h;exact ⟨b,off,h1,h2.step (WStep.refl _ _) hN⟩
 | sl k =>
  have:=Nat.eq_of_beq_eq_true hx;subst this;exact hs l h
theorem O2 (hN : ∀ b,N b→N1 b)(hs : ∀ l,(It.sl 0).sem N w g l→i.T N1 w l) : ∀ {xs:List It} {l:List Value},xs.all It.ok0=true→Bi N w g xs l→Bi N1 w G0 (xs.map (It.sub0 i)) l
 | [],_,_,h=>h
 | x::xs,_,hn,⟨l1,l2,e,h1,h2⟩=>by
  simp only[List.all_cons,Bool.and_eq_true] at hn;exact ⟨l1,l2,e,It.sub0_sem hN hs hn.1 h1,O2 hN hs hn.2 h2⟩
theorem CT.sub0_sem (hN : ∀ b,N b→N1 b)(hs : ∀ l,(It.sl 0).sem N w g l→i.T N1 w l){c:CT}{v:Value}(hc:c.ok0=true)(h:c.sem N w g v):(c.sub0 i).sem N1 w G0 v:=by
 cases c with
 | one x=>exact It.sub0_sem hN hs hc h
 | ag l=>obtain ⟨vs,e,h1⟩:=h;exact ⟨vs,e,O2 hN hs hc h1⟩
theorem Pc (hN : ∀ b,N b→N1 b)(hs : ∀ l,(It.sl 0).sem N w g l→i.T N1 w l) : ∀ {cs:List CT} {vs:List Value},cs.all CT.ok0=true→all2 (CT.sem N w g) cs vs→all2 (CT.sem N1 w G0) (cs.map (CT.sub0 i)) vs
 | [],_,_,h=>h
 | c::cs,_,hn,⟨v,l,e,h1,h2⟩=>by
  simp only[List.all_cons,Bool.and_eq_true] at hn;exact ⟨v,l,e,CT.sub0_sem hN hs hn.1 h1,Pc hN hs hn.2 h2⟩
theorem Rt {K:Nat→Prop}{k T sz n:Nat}{rows:List (List It0)}(hbox:BoxSem N w g K k ⟨T,some (sz,n),Aa rows⟩)(hn:n=rows.length)(hw : ∀ r∈rows,Ce r=sz){l:List Value}(h:(It.sl k).sem N w g l):(slI sz rows).T (fun b=>N b∨AJ g k=some b) w l:=by
 obtain ⟨A,c,xs,g1,g2,g3,g4⟩:=hbox.own rfl;have hN : ∀ b,N b→(N b∨AJ g k=some b):=fun b hb => .inl hb
 have hkb:AJ g k=A.map (·.block):=by unfold AJ;rw[g1];cases A <;> rfl
 obtain ⟨A',n',c',e1,e2⟩:=h;rw[g1] at e1;injection e1 with e1;injection e1 with e1 e3 e4;subst e1 e3 e4 hn;rcases g2 with ⟨rfl,h0,rfl,rfl⟩ | ⟨b,cs,rfl,r2,r3,r4,r5,r6,r7⟩
 ·exact ⟨none,0,e2,by omega,by simp[maxLen],fun hr=>absurd (List.eq_nil_of_length_eq_zero h0) hr⟩
 ·refine ⟨_,c,e2,r3,r4,fun _=>⟨b,0,rfl,fun i r hi => ?_⟩⟩
  obtain ⟨k1,k2⟩:=P8 hw (FT g3);have k3:=k2 i r hi;have hlen:=Hm k3;rw[hw r (List.mem_of_getElem? hi)] at hlen;refine ⟨cs,T,(0,0),_,.inr hkb,r2,?_,FU (WStep.refl _ _) hN k3⟩;rw[Nat.zero_add,hlen,←r6];have hi':i < rows.length:=(List.getElem?_eq_some_iff.1 hi).1;have hm:i*sz+sz≤rows.length*sz:=by
   have:(i+1)*sz≤rows.length*sz:=Nat.mul_le_mul_right _ hi';rw[Nat.add_mul,Nat.one_mul] at this;exact this
  rw[List.drop_take,List.take_take,Nat.min_eq_left (by omega)]
theorem Lp {f:FuncId}{T sz n:Nat}{rows:List (List It0)}{args:List CT}{res res':TV}(h:Sp P I f (args.map (CT.sub0 (slI sz rows))) res)(hn:n=rows.length)(hw : ∀ r∈rows,Ce r=sz)(hok:args.all CT.ok0=true)
  (hres : ∀ N N' w v,res.sem N w G0 v→res'.sem N' w G0 v) (hnp:res'.noPtr=true):SpM P I f [(0,some ⟨T,some (sz,n),Aa rows⟩)] args [(0,some ⟨T,some (sz,n),Aa rows⟩)] res':=by
 intro N K w g vs hI hlow hK hbx hinj hg2 hargs;have hbox:=hbx 0 _ rfl;have hc:=h (fun b=>N b∨AJ g 0=some b) w vs (I.step (WStep.refl _ _) (fun b hb => .inl hb) hI) (fun b hb=>hb.elim (hlow b) fun hb=>hbox.lt hb) (Pc (fun b hb => .inl hb) (fun l hl=>Rt hbox hn hw hl) hok hargs)
 refine hc.mono ?_;rintro en w' ⟨v,rfl,hv,hb⟩;refine ⟨v,N,g,rfl,fun _ h=>h,fun b hb => .inl hb,KBelow.of_below hb hK,fun k e he => ?_,hinj,fun _ _ _ h=>h,TV.noPtr_sem hnp (hres _ _ _ _ hv)⟩
 exact (hbx k e he).keep (WStep.of_below hb) (fun _ h=>h) (fun b hb=>(hbx k e he).notN hb) (fun b hb'=>hb.block b ((hbx k e he).lt hb')) (GExt.refl _)
theorem GM {u:Value} : ∀ (N N':Nat→Prop) (w:World) (v:Value),(B0 u).sem N w G0 v→(B0 u).sem N' w G0 v:=fun _ _ _ _ h=>h
def lnI (n:Nat):Item where
 n:=1
 T:=fun _ _ l => ∃ A c,l=[.slice A n c]
 step:=fun _ _ h=>h
 len:=fun ⟨A,c,e⟩=>by rw[e];rfl
 one:=fun ⟨A,c,e⟩ v hv=>by rw[e] at hv;simp at hv;subst hv;rfl
theorem ZV {sz n:Nat}{rows:List (List It0)}(hn:rows.length=n) : ∀ (N N':Nat→Prop) (w:World) (v:Value),(tit (slI sz rows)).sem N w G0 v→(tit (lnI n)).sem N' w G0 v:=by
 rintro N N' w v ⟨A,c,e,_⟩;subst hn;exact ⟨A,c,e⟩
theorem Th (t e ty:TypeId)(n:Nat)(ht:P.underlying t=some (.slice e)):Bx P (.len #[t] ty) [tit (lnI n)] (li n):=by
 intro N w g vs hv;obtain ⟨v,rfl,A,c,e1⟩:=ED hv;injection e1 with e1;subst e1;exact ⟨_,w,by simp[OpK.run,Builtin.len_,AP ht,goInt],Below.refl _ _,(rfl:[_]=[_])⟩
end
theorem AdC (a b a' b':Int)(c c':Bool)(w:World):(Op.equalIn 10000 101 (.agg #[.int .i64 a,.int .i64 b,.bool c]) (.agg #[.int .i64 a',.int .i64 b',.bool c'])).run Tryz.prog w = .ok (decide ((a,b,c)=(a',b',c'))) w:=by
 have u3:=Tryz.underlying3;have a3:=Tryz.isAgg3;have z3:=Tryz.sizeOf3;have u4:=Tryz.underlying4;have a4:=Tryz.isAgg4;have z4:=Tryz.sizeOf4;have hS:Tryz.prog.underlying 101=some (.struct (Tryz.prog.fieldsOf 101)):=by kernel_rfl
 have hp:Tryz.prog.stoodInHeld 101=false:=by kernel_rfl
 rw[show (10000:Nat)=9999+1 from rfl,run_equalIn_agg w 9999 101 _ _ hS hp];simp only[Program.fieldsOf,Tryz.underlying101]
 go_simp
 by_cases h1:a=a' <;> by_cases h2:b=b' <;> by_cases h3:c=c' <;> simp[h1,h2,h3]
abbrev dcl (x:De):List It:=[.i x.1,.i x.2.1,.o x.2.2]
theorem UL {N:Nat→Prop}{w:World}{g:Gh}{x:De}{v:Value}(h:(TV.cv (.ag (dcl x))).sem N w g v):v = .agg #[.int .i64 x.1,.int .i64 x.2.1,.bool x.2.2]:=by
 obtain ⟨vs,e,l1,r1,e1,h1,l2,r2,e2,h2,l3,r3,e3,h3,h4⟩:=h;have h1:l1=[_]:=h1;have h2:l2=[_]:=h2;have h3:l3=[_]:=h3;have h4:r3=[]:=h4;subst h4 h3 h2 h1 e3 e2 e1;rw[e];rfl
theorem Cy (x y:De)(r:Bool)(h:decide (x=y) = !r):Bx Tryz.prog (.bin .neq 101) [.cv (.ag (dcl x)),.cv (.ag (dcl y))] (lb r):=by
 intro N w g vs hv;obtain ⟨u,v,rfl,h1,h2⟩:=D4 hv;rw[UL h1,UL h2];refine ⟨.bool r,w,?_,Below.refl _ _,(rfl:[_]=[_])⟩;simp only[OpK.run,Sem.run_bind,run_eqGuard_agg (w:=w) .neq 101 (.tmp 0) (.tmp 1) _ _ (show Tryz.prog.eqGuardType Tryz.prog.depth 101=false by kernel_rfl),Result.andThen_ok,run_neq_struct,AdC]
 rw[show decide ((x.1,x.2.1,x.2.2)=(y.1,y.2.1,y.2.2)) = !r from h,Bool.not_not]
section
variable {P:Program}{I:WInv}{nt:Nat}
theorem Rnd.cut2 {c:Code}{s:St}{ex:Exit}{k k' nx n T T':Nat}{sl sl':Option (Nat×Nat)}{E:Env}{B:Bxs}{rows rows':List (List It0)}(h:Rnd P I nt c s ex ⟨E,(k,some ⟨T,sl,Aa rows⟩)::(k',some ⟨T',sl',Aa rows'⟩)::B,nx⟩)
  (h1:(ltE n E&&ltB n B&&Nat.blt k n&&Nat.blt k' n&&Nat.ble 4 n)=true):Rnd P I nt c s ex ⟨E,(k,some ⟨T,sl,Aa rows⟩)::(k',some ⟨T',sl',Aa rows'⟩)::B,n⟩:=by
 simp only[Bool.and_eq_true] at h1;obtain ⟨⟨⟨⟨a1,a2⟩,a3⟩,a4⟩,a5⟩:=h1;have a6:=Nat.le_of_ble_eq_true a5;refine h.leads (Lj a1 ?_);simp only[ltB,Aa,Qb,a2,a3,a4,Bool.and_self]
end
abbrev Ae (x:Int):List It0:=[.lit (.int .i64 x)]
def iat (D:List Int)(i:Nat):Int:=D.getD i 0
theorem Yy {D:List Int}{i:Nat}(h:i < D.length):D[i]? = some (iat D i):=by unfold iat;rw[List.getD_eq_getElem?_getD,List.getElem?_eq_getElem h];rfl
theorem AC {D:List Int}{i:Nat}{f:Int→List It0}(h:i < D.length):(D.map f)[i]? = some (f (iat D i)):=map_some (Yy h)
theorem QY {D:List Int}:okR 1 (D.map Ae):=by
 intro r hr;obtain ⟨x,_,rfl⟩:=List.mem_map.1 hr;exact ⟨rfl,fun y hy=>by simp at hy;subst hy;exact Nat.one_pos⟩
theorem LV {D:List Int} : ∀ r∈D.map Ae,Ce r=1:=by intro r hr;obtain ⟨x,_,rfl⟩:=List.mem_map.1 hr;rfl
theorem BW {D:List Int}{i:Nat}(h:i < D.length)(x:Int):EE (Aa (D.map Ae)) (i*1) [.i x]=some (Aa ((D.set i x).map Ae)):=by
 have:=JC (sz:=1) (r:=Ae (iat D i)) (r':=Ae x) (new:=[.i x]) (AC (f:=Ae) h) QY (fo:=0) rfl;rw[←List.map_set] at this;exact this
theorem Bh {D:List Int}{i:Nat}(h:i < D.length):Gt (Aa (D.map Ae)) (i*1) 1=some [.i (iat D i)]:=Hg (sz:=1) (r:=Ae (iat D i)) (AC h) QY (fo:=0) (n:=1) rfl
theorem Fz (n:Nat):Aa ((List.replicate n (0:Int)).map Ae)=rep n [.i 0]:=by
 induction n with
 | zero=>rfl
 | succ n ih =>
  rw[List.replicate_succ',List.map_append,List.map_singleton,←Nv,ih]
  rfl
theorem Kg {D:List Int}{i j:Nat}{x:Int}(h:i < D.length):iat (D.set i x) j=if i=j then x else iat D j:=by
 unfold iat;rw[List.getD_eq_getElem?_getD,List.getD_eq_getElem?_getD,List.getElem?_set];by_cases hij:i=j
 ·subst hij;rw[if_pos rfl,if_pos rfl,if_pos h];rfl
 ·rw[if_neg hij,if_neg hij]
theorem ES (n j:Nat):iat (List.replicate n 0) j=0:=by
 unfold iat;rw[List.getD_eq_getElem?_getD,List.getElem?_replicate];split <;> rfl
def pp (L:List Nd)(m:Nat):Nat:=(tat L (2*m+1)).par.toNat
def dlt (L:List Nd):Nat→List Int
 | 0=>List.replicate L.length 0
 | m+1=>((dlt L m).set (2*m+1) (iat (dlt L m) (pp L m)+1)).set (2*m+2) (iat ((dlt L m).set (2*m+1) (iat (dlt L m) (pp L m)+1)) (2*m+1))
def clt (L:List Nd):Nat→List Int
 | 0=>List.replicate L.length 0
 | m+1=>(clt L m).set (pp L m) (iat (clt L m) (pp L m)+2)
theorem Kr (L:List Nd) : ∀ m,(dlt L m).length=L.length
 | 0=>by rw[dlt,List.length_replicate]
 | m+1=>by rw[dlt,List.length_set,List.length_set,Kr L m]
theorem Ew (L:List Nd) : ∀ m,(clt L m).length=L.length
 | 0=>by rw[clt,List.length_replicate]
 | m+1=>by rw[clt,List.length_set,Ew L m]
theorem SF {D:List Int}{i:Nat}{x lo hi:Int}(h : ∀ j,lo≤iat D j∧iat D j≤hi)(hx:lo≤x∧x≤hi) : ∀ j,lo≤iat (D.set i x) j∧iat (D.set i x) j≤hi:=by
 intro j;by_cases hi:i < D.length
 ·rw[Kg hi]
  split
  ·exact hx
  ·exact h j
 ·rw[List.set_eq_of_length_le (by omega)];exact h j
theorem YY (L:List Nd) : ∀ m j,0≤iat (dlt L m) j∧iat (dlt L m) j≤(m:Int)
 | 0,j=>by rw[dlt,ES];omega
 | m+1,j=>by
  have h:=YY L m;have h1 : ∀ j,0≤iat (dlt L m) j∧iat (dlt L m) j≤((m+1:Nat):Int):=fun j=>⟨(h j).1,by have:=(h j).2;omega⟩
  have h2:=SF (i:=2*m+1) (x:=iat (dlt L m) (pp L m)+1) h1 ⟨by have:=(h (pp L m)).1;omega,by have:=(h (pp L m)).2;omega⟩
  rw[dlt];exact SF h2 (h2 _) j
theorem Qt (L:List Nd) : ∀ m j,0≤iat (clt L m) j∧iat (clt L m) j≤2*(m:Int)
 | 0,j=>by rw[clt,ES];omega
 | m+1,j=>by
  have h:=Qt L m;have h1 : ∀ j,0≤iat (clt L m) j∧iat (clt L m) j≤2*((m+1:Nat):Int):=fun j=>⟨(h j).1,by have:=(h j).2;omega⟩
  rw[clt];exact SF h1 ⟨by have:=(h (pp L m)).1;omega,by have:=(h (pp L m)).2;omega⟩ j
def prB (L:List Nd)(m:Nat):Bool :=
 decide ((tat L (2*m+1)).par=(tat L (2*m+2)).par)&&decide (0≤(tat L (2*m+1)).par)&&decide ((tat L (2*m+1)).par < 2*(m:Int)+1) &&
 decide (dcn (tat L (2*m+1))=((tat L (2*m+1)).fst,(tat L (2*m+1)).nxt,true))&&decide (dcn (tat L (2*m+2))=((tat L (2*m+1)).fst,(tat L (2*m+1)).nxt,false)) &&
 decide (0≤(tat L (2*m+1)).fst)&&decide (0≤(tat L (2*m+1)).nxt)&&decide (¬ (tat L (2*m+1)).fst=(tat L (2*m+1)).nxt)
def spB (L:List Nd)(m:Nat):Bool :=
 decide (iat (dlt L (m+1)) (2*m+1)≤32)&&decide (iat (clt L (m+1)) (pp L m)≤2) && !Ev L (pp L m) (tat L (2*m+1)).fst (tat L (2*m+1)).nxt &&
 decide ((tat L (pp L m)).q≤(tat L (2*m+1)).q)&&decide ((tat L (pp L m)).q≤(tat L (2*m+2)).q)
def rtB (L:List Nd):Bool:=decide ((tat L 0).par = -1)&&decide (dcn (tat L 0)=(0,0,false))&&decide (L.length % 2=1)
def chB (L:List Nd)(i:Nat):Bool:=decide ((tat L i).st=1) == decide (0 < iat (clt L (L.length / 2)) i)
def shB (L:List Nd):Bool:=rtB L&&((List.range (L.length / 2)).all fun m=>prB L m&&spB L m)&&(List.range L.length).all (chB L)
theorem Lf {L:List Nd}{m:Nat}(h : ∀ x,x < m→prB L x=true):Dn L (2*m):=by
 intro i h0 hi;obtain ⟨x,hx⟩ : ∃ x,i=2*x+1∨i=2*x+2:=⟨(i - 1) / 2,by omega⟩
 have hp:=h x (by omega)
 unfold prB at hp;simp only[Bool.and_eq_true,decide_eq_true_eq] at hp;obtain ⟨⟨⟨⟨⟨⟨⟨p1,p2⟩,p3⟩,_⟩,_⟩,_⟩,_⟩,_⟩:=hp;rcases hx with rfl | rfl
 ·exact ⟨p2,by omega⟩
 ·exact ⟨by omega,by omega⟩
theorem NH {a b:Rat}(h : ¬ b≤a):decide (CJ a b < 0)=true:=by
 unfold CJ;rw[if_pos (by grind)];rfl
theorem Hz {a b:Rat}(h:b≤a):decide (CJ a b < 0)=false:=by
 unfold CJ;rw[if_neg (by grind)]
 split <;> rfl
def G7 (c:Bool)(L:List Nd)(f:Bool)(z:Int)(D C:List Int)(k:Int):Go.Proofs.YtdgbealknnmkoaaGreatDoor.St:=⟨[(1,.p 0 0),(4,.s 27),(5,.s 32),(6,.i k)],[(27,some ⟨3,some (1,L.length),Aa ((D).map Ae)⟩),(32,some ⟨3,some (1,L.length),Aa ((C).map Ae)⟩),(0,some ⟨46,none,[.b (.it (slI 9 ((L).map (Ac c)))),.o f,.i z]⟩)],50⟩
section
variable {I:WInv}{c:Bool}
theorem FQ (L : List Nd) (f : Bool) (z : Int) (m : Nat) (hm : 2 * m + 2 < L.length) (hl : L.length ≤ 2000) (hD : Dn L (2 * m)) :
  (prB L m=true→spB L m=true→Rnd Tryz.prog I 195 (AK Tryz.prog 120 0) (G7 c L f z (dlt L m) (clt L m) (2*(m:Int)+1)) .normal (G7 c L f z (dlt L (m+1)) (clt L (m+1)) (2*((m+1:Nat):Int)+1))) ∧
  ((prB L m&&spB L m)=false→Rnd Tryz.prog I 195 (AK Tryz.prog 120 0) (G7 c L f z (dlt L m) (clt L m) (2*(m:Int)+1)) .ret ⟨[(2,lb false)],[],50⟩):=by
 have h1:2*m+1 < L.length:=by omega
 have h2:2*m+2 < L.length:=by omega
 have d1:2*m+1 < (dlt L m).length:=by rw[Kr];omega
 have d2:2*m+2 < (dlt L m).length:=by rw[Kr];omega
 by_cases p1:(tat L (2*m+1)).par=(tat L (2*m+2)).par
 ·by_cases p2 : (tat L (2 * m + 1)).par < 0
  ·refine ⟨fun h=>absurd h (by unfold prB;simp;omega),fun _ => ?_⟩
   exact rr [pk (Al 44 103 3 9 ((L).map (Ac c)) ((L).length:Int)),pk (Ak 3 (2*(m:Int)+1) ((L).length:Int)),pk (Aj 44 103 9 ((L).map (Ac c)) (2*m+1) (2*(m:Int)+1) ((Ac c) (tat L (2*m+1))) (An h1)),pk (Ay 3 (2*(m:Int)+1) 1 ⟨by omega,by omega⟩),pk (Aj 44 103 9 ((L).map (Ac c)) (2*m+2) ((2*(m:Int)+1)+1) ((Ac c) (tat L (2*m+2))) (An h2)),pk (Ao 3 ((tat L (2*m+1)).par) ((tat L (2*m+2)).par)),pk (Ak 3 ((tat L (2*m+1)).par) 0)]
  ·by_cases p3 : 2 * (m : Int) + 1 ≤ (tat L (2 * m + 1)).par
   ·refine ⟨fun h=>absurd h (by unfold prB;simp;omega),fun _ => ?_⟩
    exact rr [pk (Al 44 103 3 9 ((L).map (Ac c)) ((L).length:Int)),pk (Ak 3 (2*(m:Int)+1) ((L).length:Int)),pk (Aj 44 103 9 ((L).map (Ac c)) (2*m+1) (2*(m:Int)+1) ((Ac c) (tat L (2*m+1))) (An h1)),pk (Ay 3 (2*(m:Int)+1) 1 ⟨by omega,by omega⟩),pk (Aj 44 103 9 ((L).map (Ac c)) (2*m+2) ((2*(m:Int)+1)+1) ((Ac c) (tat L (2*m+2))) (An h2)),pk (Ao 3 ((tat L (2*m+1)).par) ((tat L (2*m+2)).par)),pk (Ai 3 ((tat L (2*m+1)).par) 0),pk (Bn 3 ((tat L (2*m+1)).par) (2*(m:Int)+1))]
   ·have hpp : (tat L (2 * m + 1)).par = ((pp L m : Nat) : Int) := by unfold pp; omega
    have hp2:pp L m≤2*m:=by omega
    have hp:pp L m < L.length:=by omega
    have dp:pp L m < (dlt L m).length:=by rw[Kr];omega
    have cp:pp L m < (clt L m).length:=by rw[Ew];omega
    have bd:=YY L m (pp L m);have bc:=Qt L m (pp L m);have hdec:=NC (I:=I) (c:=c) L f z (pp L m) (tat L (2*m+1)).fst (tat L (2*m+1)).nxt (fun i h0 hi=>hD i h0 (by omega)) hp
    rw[←hpp] at hdec;by_cases p4:dcn (tat L (2*m+1))=((tat L (2*m+1)).fst,(tat L (2*m+1)).nxt,true)
    ·by_cases p5 : dcn (tat L (2 * m + 2)) = ((tat L (2 * m + 1)).fst, (tat L (2 * m + 1)).nxt, false)
     ·by_cases p6 : (tat L (2 * m + 1)).fst < 0
      ·refine ⟨fun h=>absurd h (by unfold prB;simp;omega),fun _ => ?_⟩
       exact rr [pk (Al 44 103 3 9 ((L).map (Ac c)) ((L).length:Int)),pk (Ak 3 (2*(m:Int)+1) ((L).length:Int)),pk (Aj 44 103 9 ((L).map (Ac c)) (2*m+1) (2*(m:Int)+1) ((Ac c) (tat L (2*m+1))) (An h1)),pk (Ay 3 (2*(m:Int)+1) 1 ⟨by omega,by omega⟩),pk (Aj 44 103 9 ((L).map (Ac c)) (2*m+2) ((2*(m:Int)+1)+1) ((Ac c) (tat L (2*m+2))) (An h2)),pk (Ao 3 ((tat L (2*m+1)).par) ((tat L (2*m+2)).par)),pk (Ai 3 ((tat L (2*m+1)).par) 0),pk (Bd 3 ((tat L (2*m+1)).par) (2*(m:Int)+1)),pk (Cy (dcn (tat L (2*m+1))) ((tat L (2*m+1)).fst,(tat L (2*m+1)).nxt,true) false (decide_eq_true p4)),pk (Cy (dcn (tat L (2*m+2))) ((tat L (2*m+1)).fst,(tat L (2*m+1)).nxt,false) false (decide_eq_true p5)),pk (Ak 3 ((tat L (2*m+1)).fst) 0)]
      ·by_cases p7 : (tat L (2 * m + 1)).nxt < 0
       ·refine ⟨fun h=>absurd h (by unfold prB;simp;omega),fun _ => ?_⟩
        exact rr [pk (Al 44 103 3 9 ((L).map (Ac c)) ((L).length:Int)),pk (Ak 3 (2*(m:Int)+1) ((L).length:Int)),pk (Aj 44 103 9 ((L).map (Ac c)) (2*m+1) (2*(m:Int)+1) ((Ac c) (tat L (2*m+1))) (An h1)),pk (Ay 3 (2*(m:Int)+1) 1 ⟨by omega,by omega⟩),pk (Aj 44 103 9 ((L).map (Ac c)) (2*m+2) ((2*(m:Int)+1)+1) ((Ac c) (tat L (2*m+2))) (An h2)),pk (Ao 3 ((tat L (2*m+1)).par) ((tat L (2*m+2)).par)),pk (Ai 3 ((tat L (2*m+1)).par) 0),pk (Bd 3 ((tat L (2*m+1)).par) (2*(m:Int)+1)),pk (Cy (dcn (tat L (2*m+1))) ((tat L (2*m+1)).fst,(tat L (2*m+1)).nxt,true) false (decide_eq_true p4)),pk (Cy (dcn (tat L (2*m+2))) ((tat L (2*m+1)).fst,(tat L (2*m+1)).nxt,false) false (decide_eq_true p5)),pk (Ai 3 ((tat L (2*m+1)).fst) 0),pk (Ak 3 ((tat L (2*m+1)).nxt) 0)]
       ·by_cases p8 : (tat L (2 * m + 1)).fst = (tat L (2 * m + 1)).nxt
        ·refine ⟨fun h=>absurd h (by unfold prB;simp;omega),fun _ => ?_⟩
         exact rr [pk (Al 44 103 3 9 ((L).map (Ac c)) ((L).length:Int)),pk (Ak 3 (2*(m:Int)+1) ((L).length:Int)),pk (Aj 44 103 9 ((L).map (Ac c)) (2*m+1) (2*(m:Int)+1) ((Ac c) (tat L (2*m+1))) (An h1)),pk (Ay 3 (2*(m:Int)+1) 1 ⟨by omega,by omega⟩),pk (Aj 44 103 9 ((L).map (Ac c)) (2*m+2) ((2*(m:Int)+1)+1) ((Ac c) (tat L (2*m+2))) (An h2)),pk (Ao 3 ((tat L (2*m+1)).par) ((tat L (2*m+2)).par)),pk (Ai 3 ((tat L (2*m+1)).par) 0),pk (Bd 3 ((tat L (2*m+1)).par) (2*(m:Int)+1)),pk (Cy (dcn (tat L (2*m+1))) ((tat L (2*m+1)).fst,(tat L (2*m+1)).nxt,true) false (decide_eq_true p4)),pk (Cy (dcn (tat L (2*m+2))) ((tat L (2*m+1)).fst,(tat L (2*m+1)).nxt,false) false (decide_eq_true p5)),pk (Ai 3 ((tat L (2*m+1)).fst) 0),pk (Ai 3 ((tat L (2*m+1)).nxt) 0),pk (Ar 3 ((tat L (2*m+1)).fst) ((tat L (2*m+1)).nxt))]
        ·have hpr : prB L m = true := by unfold prB; simp [← p1, p4, p5]; omega
         by_cases p9:iat (dlt L (m+1)) (2*m+1)≤32
         ·by_cases p10 : iat (clt L (m + 1)) (pp L m) ≤ 2
          ·cases p11:Ev L (pp L m) (tat L (2*m+1)).fst (tat L (2*m+1)).nxt with
           | true =>
            rw[p11] at hdec;refine ⟨fun _ h=>absurd h (by unfold spB;simp[p11]),fun _ => ?_⟩
            exact rr [pk (Al 44 103 3 9 ((L).map (Ac c)) ((L).length:Int)),pk (Ak 3 (2*(m:Int)+1) ((L).length:Int)),pk (Aj 44 103 9 ((L).map (Ac c)) (2*m+1) (2*(m:Int)+1) ((Ac c) (tat L (2*m+1))) (An h1)),pk (Ay 3 (2*(m:Int)+1) 1 ⟨by omega,by omega⟩),pk (Aj 44 103 9 ((L).map (Ac c)) (2*m+2) ((2*(m:Int)+1)+1) ((Ac c) (tat L (2*m+2))) (An h2)),pk (Ao 3 ((tat L (2*m+1)).par) ((tat L (2*m+2)).par)),pk (Ai 3 ((tat L (2*m+1)).par) 0),pk (Bd 3 ((tat L (2*m+1)).par) (2*(m:Int)+1)),pk (Cy (dcn (tat L (2*m+1))) ((tat L (2*m+1)).fst,(tat L (2*m+1)).nxt,true) false (decide_eq_true p4)),pk (Cy (dcn (tat L (2*m+2))) ((tat L (2*m+1)).fst,(tat L (2*m+1)).nxt,false) false (decide_eq_true p5)),pk (Ai 3 ((tat L (2*m+1)).fst) 0),pk (Ai 3 ((tat L (2*m+1)).nxt) 0),pk (Ag 3 ((tat L (2*m+1)).fst) ((tat L (2*m+1)).nxt)),⟨.ix ((tat L (2*m+1)).par) (pp L m) L.length,⟨by omega,by omega⟩⟩,⟨.part (Aa ((dlt L m).map Ae)) ((pp L m)*1) 1 [.i (iat (dlt L m) (pp L m))],(Bh (D:=dlt L m) dp)⟩,pk (Ay 3 (iat (dlt L m) (pp L m)) 1 ⟨by omega,by omega⟩),⟨.ix (2*(m:Int)+1) (2*m+1) L.length,⟨by omega,by omega⟩⟩,⟨.upd (Aa ((dlt L m).map Ae)) ((2*m+1)*1) [.i ((iat (dlt L m) (pp L m))+1)] (Aa (((dlt L m).set (2*m+1) ((iat (dlt L m) (pp L m))+1)).map Ae)),(BW (D:=dlt L m) d1 ((iat (dlt L m) (pp L m))+1))⟩,pk (Ay 3 (2*(m:Int)+1) 1 ⟨by omega,by omega⟩),⟨.ix (2*(m:Int)+1) (2*m+1) L.length,⟨by omega,by omega⟩⟩,⟨.part (Aa (((dlt L m).set (2*m+1) ((iat (dlt L m) (pp L m))+1)).map Ae)) ((2*m+1)*1) 1 [.i (iat ((dlt L m).set (2*m+1) ((iat (dlt L m) (pp L m))+1)) (2*m+1))],(Bh (D:=(dlt L m).set (2*m+1) ((iat (dlt L m) (pp L m))+1)) (by rw[List.length_set];exact d1))⟩,⟨.ix ((2*(m:Int)+1)+1) (2*m+2) L.length,⟨by omega,by omega⟩⟩,⟨.upd (Aa (((dlt L m).set (2*m+1) ((iat (dlt L m) (pp L m))+1)).map Ae)) ((2*m+2)*1) [.i (iat ((dlt L m).set (2*m+1) ((iat (dlt L m) (pp L m))+1)) (2*m+1))] (Aa ((((dlt L m).set (2*m+1) ((iat (dlt L m) (pp L m))+1)).set (2*m+2) (iat ((dlt L m).set (2*m+1) ((iat (dlt L m) (pp L m))+1)) (2*m+1))).map Ae)),(BW (D:=(dlt L m).set (2*m+1) ((iat (dlt L m) (pp L m))+1)) (by rw[List.length_set];exact d2) (iat ((dlt L m).set (2*m+1) ((iat (dlt L m) (pp L m))+1)) (2*m+1)))⟩,⟨.ix ((tat L (2*m+1)).par) (pp L m) L.length,⟨by omega,by omega⟩⟩,⟨.part (Aa ((clt L m).map Ae)) ((pp L m)*1) 1 [.i (iat (clt L m) (pp L m))],(Bh (D:=clt L m) cp)⟩,pk (Ay 3 (iat (clt L m) (pp L m)) 2 ⟨by omega,by omega⟩),⟨.ix ((tat L (2*m+1)).par) (pp L m) L.length,⟨by omega,by omega⟩⟩,⟨.upd (Aa ((clt L m).map Ae)) ((pp L m)*1) [.i ((iat (clt L m) (pp L m))+2)] (Aa (((clt L m).set (pp L m) ((iat (clt L m) (pp L m))+2)).map Ae)),(BW (D:=clt L m) cp ((iat (clt L m) (pp L m))+2))⟩,⟨.ix (2*(m:Int)+1) (2*m+1) L.length,⟨by omega,by omega⟩⟩,⟨.part (Aa ((((dlt L m).set (2*m+1) ((iat (dlt L m) (pp L m))+1)).set (2*m+2) (iat ((dlt L m).set (2*m+1) ((iat (dlt L m) (pp L m))+1)) (2*m+1))).map Ae)) ((2*m+1)*1) 1 [.i (iat (((dlt L m).set (2*m+1) ((iat (dlt L m) (pp L m))+1)).set (2*m+2) (iat ((dlt L m).set (2*m+1) ((iat (dlt L m) (pp L m))+1)) (2*m+1))) (2*m+1))],(Bh (D:=((dlt L m).set (2*m+1) ((iat (dlt L m) (pp L m))+1)).set (2*m+2) (iat ((dlt L m).set (2*m+1) ((iat (dlt L m) (pp L m))+1)) (2*m+1))) (by rw[List.length_set];exact (by rw[List.length_set];exact d1)))⟩,pk (Dj 3 (iat (((dlt L m).set (2*m+1) ((iat (dlt L m) (pp L m))+1)).set (2*m+2) (iat ((dlt L m).set (2*m+1) ((iat (dlt L m) (pp L m))+1)) (2*m+1))) (2*m+1)) 32 false (decide_eq_false (Int.not_lt.2 p9))),⟨.ix ((tat L (2*m+1)).par) (pp L m) L.length,⟨by omega,by omega⟩⟩,⟨.part (Aa (((clt L m).set (pp L m) ((iat (clt L m) (pp L m))+2)).map Ae)) ((pp L m)*1) 1 [.i (iat ((clt L m).set (pp L m) ((iat (clt L m) (pp L m))+2)) (pp L m))],(Bh (D:=(clt L m).set (pp L m) ((iat (clt L m) (pp L m))+2)) (by rw[List.length_set];exact cp))⟩,pk (Dj 3 (iat ((clt L m).set (pp L m) ((iat (clt L m) (pp L m))+2)) (pp L m)) 2 false (decide_eq_false (Int.not_lt.2 p10))),po (hdec)]
           | false =>
            rw[p11] at hdec;by_cases p12:(tat L (pp L m)).q≤(tat L (2*m+1)).q
            ·by_cases p13:(tat L (pp L m)).q≤(tat L (2*m+2)).q
             ·refine ⟨fun _ _ => ?_,fun h=>absurd h (by rw[hpr];unfold spB;simp[p9,p10,p11,p12,p13])⟩
              have r:Rnd Tryz.prog I 195 (AK Tryz.prog 120 0) (G7 c L f z (dlt L m) (clt L m) (2*(m:Int)+1)) .normal (G7 c L f z (dlt L (m+1)) (clt L (m+1)) (2*(m:Int)+1+2)):=Rnd.cut2 (n:=50) (show Rnd _ _ _ _ _ _ ⟨[(1,.p 0 0),(4,.s 27),(5,.s 32),(6,.i ((2*(m:Int)+1)+2))],[(27,some ⟨3,some (1,L.length),Aa ((((dlt L m).set (2*m+1) ((iat (dlt L m) (pp L m))+1)).set (2*m+2) (iat ((dlt L m).set (2*m+1) ((iat (dlt L m) (pp L m))+1)) (2*m+1))).map Ae)⟩),(32,some ⟨3,some (1,L.length),Aa (((clt L m).set (pp L m) ((iat (clt L m) (pp L m))+2)).map Ae)⟩),(0,some ⟨46,none,[.b (.it (slI 9 ((L).map (Ac c)))),.o f,.i z]⟩)],198⟩ from rr [pk (Al 44 103 3 9 ((L).map (Ac c)) ((L).length:Int)),pk (Ak 3 (2*(m:Int)+1) ((L).length:Int)),pk (Aj 44 103 9 ((L).map (Ac c)) (2*m+1) (2*(m:Int)+1) ((Ac c) (tat L (2*m+1))) (An h1)),pk (Ay 3 (2*(m:Int)+1) 1 ⟨by omega,by omega⟩),pk (Aj 44 103 9 ((L).map (Ac c)) (2*m+2) ((2*(m:Int)+1)+1) ((Ac c) (tat L (2*m+2))) (An h2)),pk (Ao 3 ((tat L (2*m+1)).par) ((tat L (2*m+2)).par)),pk (Ai 3 ((tat L (2*m+1)).par) 0),pk (Bd 3 ((tat L (2*m+1)).par) (2*(m:Int)+1)),pk (Cy (dcn (tat L (2*m+1))) ((tat L (2*m+1)).fst,(tat L (2*m+1)).nxt,true) false (decide_eq_true p4)),pk (Cy (dcn (tat L (2*m+2))) ((tat L (2*m+1)).fst,(tat L (2*m+1)).nxt,false) false (decide_eq_true p5)),pk (Ai 3 ((tat L (2*m+1)).fst) 0),pk (Ai 3 ((tat L (2*m+1)).nxt) 0),pk (Ag 3 ((tat L (2*m+1)).fst) ((tat L (2*m+1)).nxt)),⟨.ix ((tat L (2*m+1)).par) (pp L m) L.length,⟨by omega,by omega⟩⟩,⟨.part (Aa ((dlt L m).map Ae)) ((pp L m)*1) 1 [.i (iat (dlt L m) (pp L m))],(Bh (D:=dlt L m) dp)⟩,pk (Ay 3 (iat (dlt L m) (pp L m)) 1 ⟨by omega,by omega⟩),⟨.ix (2*(m:Int)+1) (2*m+1) L.length,⟨by omega,by omega⟩⟩,⟨.upd (Aa ((dlt L m).map Ae)) ((2*m+1)*1) [.i ((iat (dlt L m) (pp L m))+1)] (Aa (((dlt L m).set (2*m+1) ((iat (dlt L m) (pp L m))+1)).map Ae)),(BW (D:=dlt L m) d1 ((iat (dlt L m) (pp L m))+1))⟩,pk (Ay 3 (2*(m:Int)+1) 1 ⟨by omega,by omega⟩),⟨.ix (2*(m:Int)+1) (2*m+1) L.length,⟨by omega,by omega⟩⟩,⟨.part (Aa (((dlt L m).set (2*m+1) ((iat (dlt L m) (pp L m))+1)).map Ae)) ((2*m+1)*1) 1 [.i (iat ((dlt L m).set (2*m+1) ((iat (dlt L m) (pp L m))+1)) (2*m+1))],(Bh (D:=(dlt L m).set (2*m+1) ((iat (dlt L m) (pp L m))+1)) (by rw[List.length_set];exact d1))⟩,⟨.ix ((2*(m:Int)+1)+1) (2*m+2) L.length,⟨by omega,by omega⟩⟩,⟨.upd (Aa (((dlt L m).set (2*m+1) ((iat (dlt L m) (pp L m))+1)).map Ae)) ((2*m+2)*1) [.i (iat ((dlt L m).set (2*m+1) ((iat (dlt L m) (pp L m))+1)) (2*m+1))] (Aa ((((dlt L m).set (2*m+1) ((iat (dlt L m) (pp L m))+1)).set (2*m+2) (iat ((dlt L m).set (2*m+1) ((iat (dlt L m) (pp L m))+1)) (2*m+1))).map Ae)),(BW (D:=(dlt L m).set (2*m+1) ((iat (dlt L m) (pp L m))+1)) (by rw[List.length_set];exact d2) (iat ((dlt L m).set (2*m+1) ((iat (dlt L m) (pp L m))+1)) (2*m+1)))⟩,⟨.ix ((tat L (2*m+1)).par) (pp L m) L.length,⟨by omega,by omega⟩⟩,⟨.part (Aa ((clt L m).map Ae)) ((pp L m)*1) 1 [.i (iat (clt L m) (pp L m))],(Bh (D:=clt L m) cp)⟩,pk (Ay 3 (iat (clt L m) (pp L m)) 2 ⟨by omega,by omega⟩),⟨.ix ((tat L (2*m+1)).par) (pp L m) L.length,⟨by omega,by omega⟩⟩,⟨.upd (Aa ((clt L m).map Ae)) ((pp L m)*1) [.i ((iat (clt L m) (pp L m))+2)] (Aa (((clt L m).set (pp L m) ((iat (clt L m) (pp L m))+2)).map Ae)),(BW (D:=clt L m) cp ((iat (clt L m) (pp L m))+2))⟩,⟨.ix (2*(m:Int)+1) (2*m+1) L.length,⟨by omega,by omega⟩⟩,⟨.part (Aa ((((dlt L m).set (2*m+1) ((iat (dlt L m) (pp L m))+1)).set (2*m+2) (iat ((dlt L m).set (2*m+1) ((iat (dlt L m) (pp L m))+1)) (2*m+1))).map Ae)) ((2*m+1)*1) 1 [.i (iat (((dlt L m).set (2*m+1) ((iat (dlt L m) (pp L m))+1)).set (2*m+2) (iat ((dlt L m).set (2*m+1) ((iat (dlt L m) (pp L m))+1)) (2*m+1))) (2*m+1))],(Bh (D:=((dlt L m).set (2*m+1) ((iat (dlt L m) (pp L m))+1)).set (2*m+2) (iat ((dlt L m).set (2*m+1) ((iat (dlt L m) (pp L m))+1)) (2*m+1))) (by rw[List.length_set];exact (by rw[List.length_set];exact d1)))⟩,pk (Dj 3 (iat (((dlt L m).set (2*m+1) ((iat (dlt L m) (pp L m))+1)).set (2*m+2) (iat ((dlt L m).set (2*m+1) ((iat (dlt L m) (pp L m))+1)) (2*m+1))) (2*m+1)) 32 false (decide_eq_false (Int.not_lt.2 p9))),⟨.ix ((tat L (2*m+1)).par) (pp L m) L.length,⟨by omega,by omega⟩⟩,⟨.part (Aa (((clt L m).set (pp L m) ((iat (clt L m) (pp L m))+2)).map Ae)) ((pp L m)*1) 1 [.i (iat ((clt L m).set (pp L m) ((iat (clt L m) (pp L m))+2)) (pp L m))],(Bh (D:=(clt L m).set (pp L m) ((iat (clt L m) (pp L m))+2)) (by rw[List.length_set];exact cp))⟩,pk (Dj 3 (iat ((clt L m).set (pp L m) ((iat (clt L m) (pp L m))+2)) (pp L m)) 2 false (decide_eq_false (Int.not_lt.2 p10))),po (hdec),pk (Aj 44 103 9 ((L).map (Ac c)) (pp L m) ((tat L (2*m+1)).par) ((Ac c) (tat L (pp L m))) (An hp)),po (TB (I:=I) (c:=c) (c':=c) (k:=12) (j:=12) (p:=(tat L (2*m+1)).q) (q:=(tat L (pp L m)).q) (r:=CJ ((tat L (2*m+1)).q) ((tat L (pp L m)).q)) rfl (by omega)),pk (CK 3 (CJ ((tat L (2*m+1)).q) ((tat L (pp L m)).q)) 0 false (Hz p12)),po (TB (I:=I) (c:=c) (c':=c) (k:=12) (j:=12) (p:=(tat L (2*m+2)).q) (q:=(tat L (pp L m)).q) (r:=CJ ((tat L (2*m+2)).q) ((tat L (pp L m)).q)) rfl (by omega)),pk (CK 3 (CJ ((tat L (2*m+2)).q) ((tat L (pp L m)).q)) 0 false (Hz p13)),pk (Ay 3 (2*(m:Int)+1) 2 ⟨by omega,by omega⟩)]) rfl
              rw[show 2*(m:Int)+1+2=2*((m+1:Nat):Int)+1 by omega] at r
              exact r
             ·refine ⟨fun _ h=>absurd h (by unfold spB;simp[p13]),fun _ => ?_⟩
              exact rr [pk (Al 44 103 3 9 ((L).map (Ac c)) ((L).length:Int)),pk (Ak 3 (2*(m:Int)+1) ((L).length:Int)),pk (Aj 44 103 9 ((L).map (Ac c)) (2*m+1) (2*(m:Int)+1) ((Ac c) (tat L (2*m+1))) (An h1)),pk (Ay 3 (2*(m:Int)+1) 1 ⟨by omega,by omega⟩),pk (Aj 44 103 9 ((L).map (Ac c)) (2*m+2) ((2*(m:Int)+1)+1) ((Ac c) (tat L (2*m+2))) (An h2)),pk (Ao 3 ((tat L (2*m+1)).par) ((tat L (2*m+2)).par)),pk (Ai 3 ((tat L (2*m+1)).par) 0),pk (Bd 3 ((tat L (2*m+1)).par) (2*(m:Int)+1)),pk (Cy (dcn (tat L (2*m+1))) ((tat L (2*m+1)).fst,(tat L (2*m+1)).nxt,true) false (decide_eq_true p4)),pk (Cy (dcn (tat L (2*m+2))) ((tat L (2*m+1)).fst,(tat L (2*m+1)).nxt,false) false (decide_eq_true p5)),pk (Ai 3 ((tat L (2*m+1)).fst) 0),pk (Ai 3 ((tat L (2*m+1)).nxt) 0),pk (Ag 3 ((tat L (2*m+1)).fst) ((tat L (2*m+1)).nxt)),⟨.ix ((tat L (2*m+1)).par) (pp L m) L.length,⟨by omega,by omega⟩⟩,⟨.part (Aa ((dlt L m).map Ae)) ((pp L m)*1) 1 [.i (iat (dlt L m) (pp L m))],(Bh (D:=dlt L m) dp)⟩,pk (Ay 3 (iat (dlt L m) (pp L m)) 1 ⟨by omega,by omega⟩),⟨.ix (2*(m:Int)+1) (2*m+1) L.length,⟨by omega,by omega⟩⟩,⟨.upd (Aa ((dlt L m).map Ae)) ((2*m+1)*1) [.i ((iat (dlt L m) (pp L m))+1)] (Aa (((dlt L m).set (2*m+1) ((iat (dlt L m) (pp L m))+1)).map Ae)),(BW (D:=dlt L m) d1 ((iat (dlt L m) (pp L m))+1))⟩,pk (Ay 3 (2*(m:Int)+1) 1 ⟨by omega,by omega⟩),⟨.ix (2*(m:Int)+1) (2*m+1) L.length,⟨by omega,by omega⟩⟩,⟨.part (Aa (((dlt L m).set (2*m+1) ((iat (dlt L m) (pp L m))+1)).map Ae)) ((2*m+1)*1) 1 [.i (iat ((dlt L m).set (2*m+1) ((iat (dlt L m) (pp L m))+1)) (2*m+1))],(Bh (D:=(dlt L m).set (2*m+1) ((iat (dlt L m) (pp L m))+1)) (by rw[List.length_set];exact d1))⟩,⟨.ix ((2*(m:Int)+1)+1) (2*m+2) L.length,⟨by omega,by omega⟩⟩,⟨.upd (Aa (((dlt L m).set (2*m+1) ((iat (dlt L m) (pp L m))+1)).map Ae)) ((2*m+2)*1) [.i (iat ((dlt L m).set (2*m+1) ((iat (dlt L m) (pp L m))+1)) (2*m+1))] (Aa ((((dlt L m).set (2*m+1) ((iat (dlt L m) (pp L m))+1)).set (2*m+2) (iat ((dlt L m).set (2*m+1) ((iat (dlt L m) (pp L m))+1)) (2*m+1))).map Ae)),(BW (D:=(dlt L m).set (2*m+1) ((iat (dlt L m) (pp L m))+1)) (by rw[List.length_set];exact d2) (iat ((dlt L m).set (2*m+1) ((iat (dlt L m) (pp L m))+1)) (2*m+1)))⟩,⟨.ix ((tat L (2*m+1)).par) (pp L m) L.length,⟨by omega,by omega⟩⟩,⟨.part (Aa ((clt L m).map Ae)) ((pp L m)*1) 1 [.i (iat (clt L m) (pp L m))],(Bh (D:=clt L m) cp)⟩,pk (Ay 3 (iat (clt L m) (pp L m)) 2 ⟨by omega,by omega⟩),⟨.ix ((tat L (2*m+1)).par) (pp L m) L.length,⟨by omega,by omega⟩⟩,⟨.upd (Aa ((clt L m).map Ae)) ((pp L m)*1) [.i ((iat (clt L m) (pp L m))+2)] (Aa (((clt L m).set (pp L m) ((iat (clt L m) (pp L m))+2)).map Ae)),(BW (D:=clt L m) cp ((iat (clt L m) (pp L m))+2))⟩,⟨.ix (2*(m:Int)+1) (2*m+1) L.length,⟨by omega,by omega⟩⟩,⟨.part (Aa ((((dlt L m).set (2*m+1) ((iat (dlt L m) (pp L m))+1)).set (2*m+2) (iat ((dlt L m).set (2*m+1) ((iat (dlt L m) (pp L m))+1)) (2*m+1))).map Ae)) ((2*m+1)*1) 1 [.i (iat (((dlt L m).set (2*m+1) ((iat (dlt L m) (pp L m))+1)).set (2*m+2) (iat ((dlt L m).set (2*m+1) ((iat (dlt L m) (pp L m))+1)) (2*m+1))) (2*m+1))],(Bh (D:=((dlt L m).set (2*m+1) ((iat (dlt L m) (pp L m))+1)).set (2*m+2) (iat ((dlt L m).set (2*m+1) ((iat (dlt L m) (pp L m))+1)) (2*m+1))) (by rw[List.length_set];exact (by rw[List.length_set];exact d1)))⟩,pk (Dj 3 (iat (((dlt L m).set (2*m+1) ((iat (dlt L m) (pp L m))+1)).set (2*m+2) (iat ((dlt L m).set (2*m+1) ((iat (dlt L m) (pp L m))+1)) (2*m+1))) (2*m+1)) 32 false (decide_eq_false (Int.not_lt.2 p9))),⟨.ix ((tat L (2*m+1)).par) (pp L m) L.length,⟨by omega,by omega⟩⟩,⟨.part (Aa (((clt L m).set (pp L m) ((iat (clt L m) (pp L m))+2)).map Ae)) ((pp L m)*1) 1 [.i (iat ((clt L m).set (pp L m) ((iat (clt L m) (pp L m))+2)) (pp L m))],(Bh (D:=(clt L m).set (pp L m) ((iat (clt L m) (pp L m))+2)) (by rw[List.length_set];exact cp))⟩,pk (Dj 3 (iat ((clt L m).set (pp L m) ((iat (clt L m) (pp L m))+2)) (pp L m)) 2 false (decide_eq_false (Int.not_lt.2 p10))),po (hdec),pk (Aj 44 103 9 ((L).map (Ac c)) (pp L m) ((tat L (2*m+1)).par) ((Ac c) (tat L (pp L m))) (An hp)),po (TB (I:=I) (c:=c) (c':=c) (k:=12) (j:=12) (p:=(tat L (2*m+1)).q) (q:=(tat L (pp L m)).q) (r:=CJ ((tat L (2*m+1)).q) ((tat L (pp L m)).q)) rfl (by omega)),pk (CK 3 (CJ ((tat L (2*m+1)).q) ((tat L (pp L m)).q)) 0 false (Hz p12)),po (TB (I:=I) (c:=c) (c':=c) (k:=12) (j:=12) (p:=(tat L (2*m+2)).q) (q:=(tat L (pp L m)).q) (r:=CJ ((tat L (2*m+2)).q) ((tat L (pp L m)).q)) rfl (by omega)),pk (CK 3 (CJ ((tat L (2*m+2)).q) ((tat L (pp L m)).q)) 0 true (NH p13))]
            ·refine ⟨fun _ h=>absurd h (by unfold spB;simp[p12]),fun _ => ?_⟩
             exact rr [pk (Al 44 103 3 9 ((L).map (Ac c)) ((L).length:Int)),pk (Ak 3 (2*(m:Int)+1) ((L).length:Int)),pk (Aj 44 103 9 ((L).map (Ac c)) (2*m+1) (2*(m:Int)+1) ((Ac c) (tat L (2*m+1))) (An h1)),pk (Ay 3 (2*(m:Int)+1) 1 ⟨by omega,by omega⟩),pk (Aj 44 103 9 ((L).map (Ac c)) (2*m+2) ((2*(m:Int)+1)+1) ((Ac c) (tat L (2*m+2))) (An h2)),pk (Ao 3 ((tat L (2*m+1)).par) ((tat L (2*m+2)).par)),pk (Ai 3 ((tat L (2*m+1)).par) 0),pk (Bd 3 ((tat L (2*m+1)).par) (2*(m:Int)+1)),pk (Cy (dcn (tat L (2*m+1))) ((tat L (2*m+1)).fst,(tat L (2*m+1)).nxt,true) false (decide_eq_true p4)),pk (Cy (dcn (tat L (2*m+2))) ((tat L (2*m+1)).fst,(tat L (2*m+1)).nxt,false) false (decide_eq_true p5)),pk (Ai 3 ((tat L (2*m+1)).fst) 0),pk (Ai 3 ((tat L (2*m+1)).nxt) 0),pk (Ag 3 ((tat L (2*m+1)).fst) ((tat L (2*m+1)).nxt)),⟨.ix ((tat L (2*m+1)).par) (pp L m) L.length,⟨by omega,by omega⟩⟩,⟨.part (Aa ((dlt L m).map Ae)) ((pp L m)*1) 1 [.i (iat (dlt L m) (pp L m))],(Bh (D:=dlt L m) dp)⟩,pk (Ay 3 (iat (dlt L m) (pp L m)) 1 ⟨by omega,by omega⟩),⟨.ix (2*(m:Int)+1) (2*m+1) L.length,⟨by omega,by omega⟩⟩,⟨.upd (Aa ((dlt L m).map Ae)) ((2*m+1)*1) [.i ((iat (dlt L m) (pp L m))+1)] (Aa (((dlt L m).set (2*m+1) ((iat (dlt L m) (pp L m))+1)).map Ae)),(BW (D:=dlt L m) d1 ((iat (dlt L m) (pp L m))+1))⟩,pk (Ay 3 (2*(m:Int)+1) 1 ⟨by omega,by omega⟩),⟨.ix (2*(m:Int)+1) (2*m+1) L.length,⟨by omega,by omega⟩⟩,⟨.part (Aa (((dlt L m).set (2*m+1) ((iat (dlt L m) (pp L m))+1)).map Ae)) ((2*m+1)*1) 1 [.i (iat ((dlt L m).set (2*m+1) ((iat (dlt L m) (pp L m))+1)) (2*m+1))],(Bh (D:=(dlt L m).set (2*m+1) ((iat (dlt L m) (pp L m))+1)) (by rw[List.length_set];exact d1))⟩,⟨.ix ((2*(m:Int)+1)+1) (2*m+2) L.length,⟨by omega,by omega⟩⟩,⟨.upd (Aa (((dlt L m).set (2*m+1) ((iat (dlt L m) (pp L m))+1)).map Ae)) ((2*m+2)*1) [.i (iat ((dlt L m).set (2*m+1) ((iat (dlt L m) (pp L m))+1)) (2*m+1))] (Aa ((((dlt L m).set (2*m+1) ((iat (dlt L m) (pp L m))+1)).set (2*m+2) (iat ((dlt L m).set (2*m+1) ((iat (dlt L m) (pp L m))+1)) (2*m+1))).map Ae)),(BW (D:=(dlt L m).set (2*m+1) ((iat (dlt L m) (pp L m))+1)) (by rw[List.length_set];exact d2) (iat ((dlt L m).set (2*m+1) ((iat (dlt L m) (pp L m))+1)) (2*m+1)))⟩,⟨.ix ((tat L (2*m+1)).par) (pp L m) L.length,⟨by omega,by omega⟩⟩,⟨.part (Aa ((clt L m).map Ae)) ((pp L m)*1) 1 [.i (iat (clt L m) (pp L m))],(Bh (D:=clt L m) cp)⟩,pk (Ay 3 (iat (clt L m) (pp L m)) 2 ⟨by omega,by omega⟩),⟨.ix ((tat L (2*m+1)).par) (pp L m) L.length,⟨by omega,by omega⟩⟩,⟨.upd (Aa ((clt L m).map Ae)) ((pp L m)*1) [.i ((iat (clt L m) (pp L m))+2)] (Aa (((clt L m).set (pp L m) ((iat (clt L m) (pp L m))+2)).map Ae)),(BW (D:=clt L m) cp ((iat (clt L m) (pp L m))+2))⟩,⟨.ix (2*(m:Int)+1) (2*m+1) L.length,⟨by omega,by omega⟩⟩,⟨.part (Aa ((((dlt L m).set (2*m+1) ((iat (dlt L m) (pp L m))+1)).set (2*m+2) (iat ((dlt L m).set (2*m+1) ((iat (dlt L m) (pp L m))+1)) (2*m+1))).map Ae)) ((2*m+1)*1) 1 [.i (iat (((dlt L m).set (2*m+1) ((iat (dlt L m) (pp L m))+1)).set (2*m+2) (iat ((dlt L m).set (2*m+1) ((iat (dlt L m) (pp L m))+1)) (2*m+1))) (2*m+1))],(Bh (D:=((dlt L m).set (2*m+1) ((iat (dlt L m) (pp L m))+1)).set (2*m+2) (iat ((dlt L m).set (2*m+1) ((iat (dlt L m) (pp L m))+1)) (2*m+1))) (by rw[List.length_set];exact (by rw[List.length_set];exact d1)))⟩,pk (Dj 3 (iat (((dlt L m).set (2*m+1) ((iat (dlt L m) (pp L m))+1)).set (2*m+2) (iat ((dlt L m).set (2*m+1) ((iat (dlt L m) (pp L m))+1)) (2*m+1))) (2*m+1)) 32 false (decide_eq_false (Int.not_lt.2 p9))),⟨.ix ((tat L (2*m+1)).par) (pp L m) L.length,⟨by omega,by omega⟩⟩,⟨.part (Aa (((clt L m).set (pp L m) ((iat (clt L m) (pp L m))+2)).map Ae)) ((pp L m)*1) 1 [.i (iat ((clt L m).set (pp L m) ((iat (clt L m) (pp L m))+2)) (pp L m))],(Bh (D:=(clt L m).set (pp L m) ((iat (clt L m) (pp L m))+2)) (by rw[List.length_set];exact cp))⟩,pk (Dj 3 (iat ((clt L m).set (pp L m) ((iat (clt L m) (pp L m))+2)) (pp L m)) 2 false (decide_eq_false (Int.not_lt.2 p10))),po (hdec),pk (Aj 44 103 9 ((L).map (Ac c)) (pp L m) ((tat L (2*m+1)).par) ((Ac c) (tat L (pp L m))) (An hp)),po (TB (I:=I) (c:=c) (c':=c) (k:=12) (j:=12) (p:=(tat L (2*m+1)).q) (q:=(tat L (pp L m)).q) (r:=CJ ((tat L (2*m+1)).q) ((tat L (pp L m)).q)) rfl (by omega)),pk (CK 3 (CJ ((tat L (2*m+1)).q) ((tat L (pp L m)).q)) 0 true (NH p12))]
          ·refine ⟨fun _ h=>absurd h (by unfold spB;simp[p10]),fun _ => ?_⟩
           exact rr [pk (Al 44 103 3 9 ((L).map (Ac c)) ((L).length:Int)),pk (Ak 3 (2*(m:Int)+1) ((L).length:Int)),pk (Aj 44 103 9 ((L).map (Ac c)) (2*m+1) (2*(m:Int)+1) ((Ac c) (tat L (2*m+1))) (An h1)),pk (Ay 3 (2*(m:Int)+1) 1 ⟨by omega,by omega⟩),pk (Aj 44 103 9 ((L).map (Ac c)) (2*m+2) ((2*(m:Int)+1)+1) ((Ac c) (tat L (2*m+2))) (An h2)),pk (Ao 3 ((tat L (2*m+1)).par) ((tat L (2*m+2)).par)),pk (Ai 3 ((tat L (2*m+1)).par) 0),pk (Bd 3 ((tat L (2*m+1)).par) (2*(m:Int)+1)),pk (Cy (dcn (tat L (2*m+1))) ((tat L (2*m+1)).fst,(tat L (2*m+1)).nxt,true) false (decide_eq_true p4)),pk (Cy (dcn (tat L (2*m+2))) ((tat L (2*m+1)).fst,(tat L (2*m+1)).nxt,false) false (decide_eq_true p5)),pk (Ai 3 ((tat L (2*m+1)).fst) 0),pk (Ai 3 ((tat L (2*m+1)).nxt) 0),pk (Ag 3 ((tat L (2*m+1)).fst) ((tat L (2*m+1)).nxt)),⟨.ix ((tat L (2*m+1)).par) (pp L m) L.length,⟨by omega,by omega⟩⟩,⟨.part (Aa ((dlt L m).map Ae)) ((pp L m)*1) 1 [.i (iat (dlt L m) (pp L m))],(Bh (D:=dlt L m) dp)⟩,pk (Ay 3 (iat (dlt L m) (pp L m)) 1 ⟨by omega,by omega⟩),⟨.ix (2*(m:Int)+1) (2*m+1) L.length,⟨by omega,by omega⟩⟩,⟨.upd (Aa ((dlt L m).map Ae)) ((2*m+1)*1) [.i ((iat (dlt L m) (pp L m))+1)] (Aa (((dlt L m).set (2*m+1) ((iat (dlt L m) (pp L m))+1)).map Ae)),(BW (D:=dlt L m) d1 ((iat (dlt L m) (pp L m))+1))⟩,pk (Ay 3 (2*(m:Int)+1) 1 ⟨by omega,by omega⟩),⟨.ix (2*(m:Int)+1) (2*m+1) L.length,⟨by omega,by omega⟩⟩,⟨.part (Aa (((dlt L m).set (2*m+1) ((iat (dlt L m) (pp L m))+1)).map Ae)) ((2*m+1)*1) 1 [.i (iat ((dlt L m).set (2*m+1) ((iat (dlt L m) (pp L m))+1)) (2*m+1))],(Bh (D:=(dlt L m).set (2*m+1) ((iat (dlt L m) (pp L m))+1)) (by rw[List.length_set];exact d1))⟩,⟨.ix ((2*(m:Int)+1)+1) (2*m+2) L.length,⟨by omega,by omega⟩⟩,⟨.upd (Aa (((dlt L m).set (2*m+1) ((iat (dlt L m) (pp L m))+1)).map Ae)) ((2*m+2)*1) [.i (iat ((dlt L m).set (2*m+1) ((iat (dlt L m) (pp L m))+1)) (2*m+1))] (Aa ((((dlt L m).set (2*m+1) ((iat (dlt L m) (pp L m))+1)).set (2*m+2) (iat ((dlt L m).set (2*m+1) ((iat (dlt L m) (pp L m))+1)) (2*m+1))).map Ae)),(BW (D:=(dlt L m).set (2*m+1) ((iat (dlt L m) (pp L m))+1)) (by rw[List.length_set];exact d2) (iat ((dlt L m).set (2*m+1) ((iat (dlt L m) (pp L m))+1)) (2*m+1)))⟩,⟨.ix ((tat L (2*m+1)).par) (pp L m) L.length,⟨by omega,by omega⟩⟩,⟨.part (Aa ((clt L m).map Ae)) ((pp L m)*1) 1 [.i (iat (clt L m) (pp L m))],(Bh (D:=clt L m) cp)⟩,pk (Ay 3 (iat (clt L m) (pp L m)) 2 ⟨by omega,by omega⟩),⟨.ix ((tat L (2*m+1)).par) (pp L m) L.length,⟨by omega,by omega⟩⟩,⟨.upd (Aa ((clt L m).map Ae)) ((pp L m)*1) [.i ((iat (clt L m) (pp L m))+2)] (Aa (((clt L m).set (pp L m) ((iat (clt L m) (pp L m))+2)).map Ae)),(BW (D:=clt L m) cp ((iat (clt L m) (pp L m))+2))⟩,⟨.ix (2*(m:Int)+1) (2*m+1) L.length,⟨by omega,by omega⟩⟩,⟨.part (Aa ((((dlt L m).set (2*m+1) ((iat (dlt L m) (pp L m))+1)).set (2*m+2) (iat ((dlt L m).set (2*m+1) ((iat (dlt L m) (pp L m))+1)) (2*m+1))).map Ae)) ((2*m+1)*1) 1 [.i (iat (((dlt L m).set (2*m+1) ((iat (dlt L m) (pp L m))+1)).set (2*m+2) (iat ((dlt L m).set (2*m+1) ((iat (dlt L m) (pp L m))+1)) (2*m+1))) (2*m+1))],(Bh (D:=((dlt L m).set (2*m+1) ((iat (dlt L m) (pp L m))+1)).set (2*m+2) (iat ((dlt L m).set (2*m+1) ((iat (dlt L m) (pp L m))+1)) (2*m+1))) (by rw[List.length_set];exact (by rw[List.length_set];exact d1)))⟩,pk (Dj 3 (iat (((dlt L m).set (2*m+1) ((iat (dlt L m) (pp L m))+1)).set (2*m+2) (iat ((dlt L m).set (2*m+1) ((iat (dlt L m) (pp L m))+1)) (2*m+1))) (2*m+1)) 32 false (decide_eq_false (Int.not_lt.2 p9))),⟨.ix ((tat L (2*m+1)).par) (pp L m) L.length,⟨by omega,by omega⟩⟩,⟨.part (Aa (((clt L m).set (pp L m) ((iat (clt L m) (pp L m))+2)).map Ae)) ((pp L m)*1) 1 [.i (iat ((clt L m).set (pp L m) ((iat (clt L m) (pp L m))+2)) (pp L m))],(Bh (D:=(clt L m).set (pp L m) ((iat (clt L m) (pp L m))+2)) (by rw[List.length_set];exact cp))⟩,pk (Dj 3 (iat ((clt L m).set (pp L m) ((iat (clt L m) (pp L m))+2)) (pp L m)) 2 true (decide_eq_true (Int.not_le.1 p10)))]
         ·refine ⟨fun _ h=>absurd h (by unfold spB;simp[p9]),fun _ => ?_⟩
          exact rr [pk (Al 44 103 3 9 ((L).map (Ac c)) ((L).length:Int)),pk (Ak 3 (2*(m:Int)+1) ((L).length:Int)),pk (Aj 44 103 9 ((L).map (Ac c)) (2*m+1) (2*(m:Int)+1) ((Ac c) (tat L (2*m+1))) (An h1)),pk (Ay 3 (2*(m:Int)+1) 1 ⟨by omega,by omega⟩),pk (Aj 44 103 9 ((L).map (Ac c)) (2*m+2) ((2*(m:Int)+1)+1) ((Ac c) (tat L (2*m+2))) (An h2)),pk (Ao 3 ((tat L (2*m+1)).par) ((tat L (2*m+2)).par)),pk (Ai 3 ((tat L (2*m+1)).par) 0),pk (Bd 3 ((tat L (2*m+1)).par) (2*(m:Int)+1)),pk (Cy (dcn (tat L (2*m+1))) ((tat L (2*m+1)).fst,(tat L (2*m+1)).nxt,true) false (decide_eq_true p4)),pk (Cy (dcn (tat L (2*m+2))) ((tat L (2*m+1)).fst,(tat L (2*m+1)).nxt,false) false (decide_eq_true p5)),pk (Ai 3 ((tat L (2*m+1)).fst) 0),pk (Ai 3 ((tat L (2*m+1)).nxt) 0),pk (Ag 3 ((tat L (2*m+1)).fst) ((tat L (2*m+1)).nxt)),⟨.ix ((tat L (2*m+1)).par) (pp L m) L.length,⟨by omega,by omega⟩⟩,⟨.part (Aa ((dlt L m).map Ae)) ((pp L m)*1) 1 [.i (iat (dlt L m) (pp L m))],(Bh (D:=dlt L m) dp)⟩,pk (Ay 3 (iat (dlt L m) (pp L m)) 1 ⟨by omega,by omega⟩),⟨.ix (2*(m:Int)+1) (2*m+1) L.length,⟨by omega,by omega⟩⟩,⟨.upd (Aa ((dlt L m).map Ae)) ((2*m+1)*1) [.i ((iat (dlt L m) (pp L m))+1)] (Aa (((dlt L m).set (2*m+1) ((iat (dlt L m) (pp L m))+1)).map Ae)),(BW (D:=dlt L m) d1 ((iat (dlt L m) (pp L m))+1))⟩,pk (Ay 3 (2*(m:Int)+1) 1 ⟨by omega,by omega⟩),⟨.ix (2*(m:Int)+1) (2*m+1) L.length,⟨by omega,by omega⟩⟩,⟨.part (Aa (((dlt L m).set (2*m+1) ((iat (dlt L m) (pp L m))+1)).map Ae)) ((2*m+1)*1) 1 [.i (iat ((dlt L m).set (2*m+1) ((iat (dlt L m) (pp L m))+1)) (2*m+1))],(Bh (D:=(dlt L m).set (2*m+1) ((iat (dlt L m) (pp L m))+1)) (by rw[List.length_set];exact d1))⟩,⟨.ix ((2*(m:Int)+1)+1) (2*m+2) L.length,⟨by omega,by omega⟩⟩,⟨.upd (Aa (((dlt L m).set (2*m+1) ((iat (dlt L m) (pp L m))+1)).map Ae)) ((2*m+2)*1) [.i (iat ((dlt L m).set (2*m+1) ((iat (dlt L m) (pp L m))+1)) (2*m+1))] (Aa ((((dlt L m).set (2*m+1) ((iat (dlt L m) (pp L m))+1)).set (2*m+2) (iat ((dlt L m).set (2*m+1) ((iat (dlt L m) (pp L m))+1)) (2*m+1))).map Ae)),(BW (D:=(dlt L m).set (2*m+1) ((iat (dlt L m) (pp L m))+1)) (by rw[List.length_set];exact d2) (iat ((dlt L m).set (2*m+1) ((iat (dlt L m) (pp L m))+1)) (2*m+1)))⟩,⟨.ix ((tat L (2*m+1)).par) (pp L m) L.length,⟨by omega,by omega⟩⟩,⟨.part (Aa ((clt L m).map Ae)) ((pp L m)*1) 1 [.i (iat (clt L m) (pp L m))],(Bh (D:=clt L m) cp)⟩,pk (Ay 3 (iat (clt L m) (pp L m)) 2 ⟨by omega,by omega⟩),⟨.ix ((tat L (2*m+1)).par) (pp L m) L.length,⟨by omega,by omega⟩⟩,⟨.upd (Aa ((clt L m).map Ae)) ((pp L m)*1) [.i ((iat (clt L m) (pp L m))+2)] (Aa (((clt L m).set (pp L m) ((iat (clt L m) (pp L m))+2)).map Ae)),(BW (D:=clt L m) cp ((iat (clt L m) (pp L m))+2))⟩,⟨.ix (2*(m:Int)+1) (2*m+1) L.length,⟨by omega,by omega⟩⟩,⟨.part (Aa ((((dlt L m).set (2*m+1) ((iat (dlt L m) (pp L m))+1)).set (2*m+2) (iat ((dlt L m).set (2*m+1) ((iat (dlt L m) (pp L m))+1)) (2*m+1))).map Ae)) ((2*m+1)*1) 1 [.i (iat (((dlt L m).set (2*m+1) ((iat (dlt L m) (pp L m))+1)).set (2*m+2) (iat ((dlt L m).set (2*m+1) ((iat (dlt L m) (pp L m))+1)) (2*m+1))) (2*m+1))],(Bh (D:=((dlt L m).set (2*m+1) ((iat (dlt L m) (pp L m))+1)).set (2*m+2) (iat ((dlt L m).set (2*m+1) ((iat (dlt L m) (pp L m))+1)) (2*m+1))) (by rw[List.length_set];exact (by rw[List.length_set];exact d1)))⟩,pk (Dj 3 (iat (((dlt L m).set (2*m+1) ((iat (dlt L m) (pp L m))+1)).set (2*m+2) (iat ((dlt L m).set (2*m+1) ((iat (dlt L m) (pp L m))+1)) (2*m+1))) (2*m+1)) 32 true (decide_eq_true (Int.not_le.1 p9)))]
     ·refine ⟨fun h=>absurd h (by unfold prB;simp[p5]),fun _ => ?_⟩
      exact rr [pk (Al 44 103 3 9 ((L).map (Ac c)) ((L).length:Int)),pk (Ak 3 (2*(m:Int)+1) ((L).length:Int)),pk (Aj 44 103 9 ((L).map (Ac c)) (2*m+1) (2*(m:Int)+1) ((Ac c) (tat L (2*m+1))) (An h1)),pk (Ay 3 (2*(m:Int)+1) 1 ⟨by omega,by omega⟩),pk (Aj 44 103 9 ((L).map (Ac c)) (2*m+2) ((2*(m:Int)+1)+1) ((Ac c) (tat L (2*m+2))) (An h2)),pk (Ao 3 ((tat L (2*m+1)).par) ((tat L (2*m+2)).par)),pk (Ai 3 ((tat L (2*m+1)).par) 0),pk (Bd 3 ((tat L (2*m+1)).par) (2*(m:Int)+1)),pk (Cy (dcn (tat L (2*m+1))) ((tat L (2*m+1)).fst,(tat L (2*m+1)).nxt,true) false (decide_eq_true p4)),pk (Cy (dcn (tat L (2*m+2))) ((tat L (2*m+1)).fst,(tat L (2*m+1)).nxt,false) true (decide_eq_false p5))]
    ·refine ⟨fun h=>absurd h (by unfold prB;simp[p4]),fun _ => ?_⟩
     exact rr [pk (Al 44 103 3 9 ((L).map (Ac c)) ((L).length:Int)),pk (Ak 3 (2*(m:Int)+1) ((L).length:Int)),pk (Aj 44 103 9 ((L).map (Ac c)) (2*m+1) (2*(m:Int)+1) ((Ac c) (tat L (2*m+1))) (An h1)),pk (Ay 3 (2*(m:Int)+1) 1 ⟨by omega,by omega⟩),pk (Aj 44 103 9 ((L).map (Ac c)) (2*m+2) ((2*(m:Int)+1)+1) ((Ac c) (tat L (2*m+2))) (An h2)),pk (Ao 3 ((tat L (2*m+1)).par) ((tat L (2*m+2)).par)),pk (Ai 3 ((tat L (2*m+1)).par) 0),pk (Bd 3 ((tat L (2*m+1)).par) (2*(m:Int)+1)),pk (Cy (dcn (tat L (2*m+1))) ((tat L (2*m+1)).fst,(tat L (2*m+1)).nxt,true) true (decide_eq_false p4))]
 ·refine ⟨fun h=>absurd h (by unfold prB;simp[p1]),fun _ => ?_⟩
  exact rr [pk (Al 44 103 3 9 ((L).map (Ac c)) ((L).length:Int)),pk (Ak 3 (2*(m:Int)+1) ((L).length:Int)),pk (Aj 44 103 9 ((L).map (Ac c)) (2*m+1) (2*(m:Int)+1) ((Ac c) (tat L (2*m+1))) (An h1)),pk (Ay 3 (2*(m:Int)+1) 1 ⟨by omega,by omega⟩),pk (Aj 44 103 9 ((L).map (Ac c)) (2*m+2) ((2*(m:Int)+1)+1) ((Ac c) (tat L (2*m+2))) (An h2)),pk (AI 3 ((tat L (2*m+1)).par) ((tat L (2*m+2)).par))]
theorem Hs (ok:Nat→Bool) : ∀ M,(∀ x,x < M→ok x=true) ∨ ∃ i,i < M∧(∀ x,x < i→ok x=true)∧ok i=false
 | 0 => .inl fun x hx=>by omega
 | M+1=>by
  rcases Hs ok M with h | ⟨i,h1,h2,h3⟩
  ·cases hM:ok M with
   | true =>
    refine .inl fun x hx => ?_
    by_cases e:x=M
    ·rw[e];exact hM
    ·exact h x (by omega)
   | false=>exact .inr ⟨M,by omega,h,hM⟩
  ·exact .inr ⟨i,by omega,h2,h3⟩
theorem P4 (L:List Nd)(f:Bool)(z:Int)(M:Nat)(hM:L.length=2*M+1)(hl:L.length≤2000)(h : ∀ x,x < M→(prB L x&&spB L x)=true) :
  LoopTr Tryz.prog I 195 (AK Tryz.prog 120 0) (G7 c L f z (dlt L 0) (clt L 0) (2*((0:Nat):Int)+1)) (.exit 0) ⟨[(1,.p 0 0),(5,.s 32)],[(27,some ⟨3,some (1,L.length),Aa ((dlt L M).map Ae)⟩),(32,some ⟨3,some (1,L.length),Aa ((clt L M).map Ae)⟩),(0,some ⟨46,none,[.b (.it (slI 9 ((L).map (Ac c)))),.o f,.i z]⟩)],50⟩ :=
 Bq (by simp) (fun m=>G7 c L f z (dlt L m) (clt L m) (2*(m:Int)+1)) M (fun m hm=>by
  have h1:=h m hm;rw[Bool.and_eq_true] at h1;exact (FQ L f z m (by omega) hl (Lf fun x hx=>by have:=h x (by omega);rw[Bool.and_eq_true] at this;exact this.1)).1 h1.1 h1.2) (by
  exact Rnd.cut2 (n:=50) (show Rnd _ _ _ _ _ _ ⟨[(1,.p 0 0),(5,.s 32)],[(27,some ⟨3,some (1,L.length),Aa ((dlt L M).map Ae)⟩),(32,some ⟨3,some (1,L.length),Aa ((clt L M).map Ae)⟩),(0,some ⟨46,none,[.b (.it (slI 9 ((L).map (Ac c)))),.o f,.i z]⟩)],55⟩ from rr [pk (Al 44 103 3 9 ((L).map (Ac c)) ((L).length:Int)),pk (Ai 3 (2*(M:Int)+1) ((L).length:Int))]) rfl)
theorem KE (L:List Nd)(f:Bool)(z:Int)(i:Nat)(hi:2*i+2 < L.length)(hl:L.length≤2000)(h : ∀ x,x < i→(prB L x&&spB L x)=true)(hb:(prB L i&&spB L i)=false) :
  LoopTr Tryz.prog I 195 (AK Tryz.prog 120 0) (G7 c L f z (dlt L 0) (clt L 0) (2*((0:Nat):Int)+1)) .ret ⟨[(2,lb false)],[],50⟩ :=
 have hp : ∀ x,x < i→prB L x=true:=fun x hx=>by have:=h x hx;rw[Bool.and_eq_true] at this;exact this.1
 Bq (by simp) (fun m=>G7 c L f z (dlt L m) (clt L m) (2*(m:Int)+1)) i (fun m hm=>by
  have h1:=h m hm;rw[Bool.and_eq_true] at h1;exact (FQ L f z m (by omega) hl (Lf fun x hx=>hp x (by omega))).1 h1.1 h1.2) ((FQ L f z i hi hl (Lf hp)).2 hb)
def Kz (c:Bool)(L:List Nd)(i:Int):Go.Proofs.YtdgbealknnmkoaaGreatDoor.St:=⟨[(5,.s 32),(178,.t (slI 9 ((L).map (Ac c)))),(179,.i (L.length:Int)),(180,.i i)],[(32,some ⟨3,some (1,L.length),Aa ((clt L (L.length / 2)).map Ae)⟩)],90⟩
theorem FR (L:List Nd)(hl:L.length≤2000)(i:Nat)(hi:i < L.length) :
  (chB L i=true→Rnd Tryz.prog I 195 (AK Tryz.prog 120 1) (Kz c L (i:Int)) .normal (Kz c L ((i+1:Nat):Int)))∧(chB L i=false→Rnd Tryz.prog I 195 (AK Tryz.prog 120 1) (Kz c L (i:Int)) .ret ⟨[(2,lb false)],[],50⟩):=by
 have ci:i < (clt L (L.length / 2)).length:=by rw[Ew];exact hi
 by_cases h1:(tat L i).st=1
 ·by_cases h2:0 < iat (clt L (L.length / 2)) i
  ·refine ⟨fun _ => ?_,fun h=>absurd h (by unfold chB;simp[h1,h2])⟩
   exact Rnd.cut (n:=90) (show Rnd _ _ _ _ _ _ ⟨[(5,.s 32),(178,.t (slI 9 ((L).map (Ac c)))),(179,.i (L.length:Int)),(180,.i ((i:Int)+1))],[(32,some ⟨3,some (1,L.length),Aa ((clt L (L.length / 2)).map Ae)⟩)],108⟩ from rr [pk (Ak 3 (i:Int) (L.length:Int)),pk (Aj 44 103 9 ((L).map (Ac c)) i (i:Int) ((Ac c) (tat L i)) (An hi)),pk (Ar 3 ((tat L i).st) 1),⟨.ix (i:Int) i L.length,⟨by omega,by omega⟩⟩,⟨.part (Aa ((clt L (L.length / 2)).map Ae)) (i*1) 1 [.i (iat (clt L (L.length / 2)) (i))],(Bh (D:=clt L (L.length / 2)) ci)⟩,pk (BY 3 (iat (clt L (L.length / 2)) (i)) 0),pa,pk (Ay 3 (i:Int) 1 ⟨by omega,by omega⟩)]) rfl
  ·refine ⟨fun h=>absurd h (by unfold chB;simp[h1,h2]),fun _ => ?_⟩
   exact rr [pk (Ak 3 (i:Int) (L.length:Int)),pk (Aj 44 103 9 ((L).map (Ac c)) i (i:Int) ((Ac c) (tat L i)) (An hi)),pk (Ar 3 ((tat L i).st) 1),⟨.ix (i:Int) i L.length,⟨by omega,by omega⟩⟩,⟨.part (Aa ((clt L (L.length / 2)).map Ae)) (i*1) 1 [.i (iat (clt L (L.length / 2)) (i))],(Bh (D:=clt L (L.length / 2)) ci)⟩,pk (Au 3 (iat (clt L (L.length / 2)) (i)) 0),pa]
 ·by_cases h2:0 < iat (clt L (L.length / 2)) i
  ·refine ⟨fun h=>absurd h (by unfold chB;simp[h1,h2]),fun _ => ?_⟩
   exact rr [pk (Ak 3 (i:Int) (L.length:Int)),pk (Aj 44 103 9 ((L).map (Ac c)) i (i:Int) ((Ac c) (tat L i)) (An hi)),pk (Ag 3 ((tat L i).st) 1),⟨.ix (i:Int) i L.length,⟨by omega,by omega⟩⟩,⟨.part (Aa ((clt L (L.length / 2)).map Ae)) (i*1) 1 [.i (iat (clt L (L.length / 2)) (i))],(Bh (D:=clt L (L.length / 2)) ci)⟩,pk (BY 3 (iat (clt L (L.length / 2)) (i)) 0),pa]
  ·refine ⟨fun _ => ?_,fun h=>absurd h (by unfold chB;simp[h1,h2])⟩
   exact Rnd.cut (n:=90) (show Rnd _ _ _ _ _ _ ⟨[(5,.s 32),(178,.t (slI 9 ((L).map (Ac c)))),(179,.i (L.length:Int)),(180,.i ((i:Int)+1))],[(32,some ⟨3,some (1,L.length),Aa ((clt L (L.length / 2)).map Ae)⟩)],108⟩ from rr [pk (Ak 3 (i:Int) (L.length:Int)),pk (Aj 44 103 9 ((L).map (Ac c)) i (i:Int) ((Ac c) (tat L i)) (An hi)),pk (Ag 3 ((tat L i).st) 1),⟨.ix (i:Int) i L.length,⟨by omega,by omega⟩⟩,⟨.part (Aa ((clt L (L.length / 2)).map Ae)) (i*1) 1 [.i (iat (clt L (L.length / 2)) (i))],(Bh (D:=clt L (L.length / 2)) ci)⟩,pk (Au 3 (iat (clt L (L.length / 2)) (i)) 0),pa,pk (Ay 3 (i:Int) 1 ⟨by omega,by omega⟩)]) rfl
theorem LL (L:List Nd)(hl:L.length≤2000)(h : ∀ i,i < L.length→chB L i=true):LoopTr Tryz.prog I 195 (AK Tryz.prog 120 1) (Kz c L ((0:Nat):Int)) (.exit 2) ⟨[],[],50⟩ :=
 Bq (by simp) (fun i=>Kz c L (i:Int)) L.length (fun i hi=>(FR L hl i hi).1 (h i hi)) (by
  exact rr [pk (Ai 3 (L.length:Int) (L.length:Int))])
theorem KF (L:List Nd)(hl:L.length≤2000)(i:Nat)(hi:i < L.length)(h : ∀ x,x < i→chB L x=true)(hb:chB L i=false):LoopTr Tryz.prog I 195 (AK Tryz.prog 120 1) (Kz c L ((0:Nat):Int)) .ret ⟨[(2,lb false)],[],50⟩ :=
 Bq (by simp) (fun i=>Kz c L (i:Int)) i (fun x hx=>(FR L hl x (by omega)).1 (h x hx)) ((FR L hl i hi).2 hb)
theorem V8 (L : List Nd) (f : Bool) (z : Int) (h0 : 0 < L.length) (hl : L.length ≤ 2000) : Sp Tryz.prog I 120 [trT c L f z] (lb (shB L)) := by
 have h00:=h0;by_cases q1:(tat L 0).par = -1
 ·by_cases q2 : dcn (tat L 0) = (0, 0, false)
  ·by_cases q3:L.length % 2=1
   ·obtain ⟨M,hM⟩ : ∃ M,L.length=2*M+1:=⟨L.length / 2,by omega⟩
    have hM2:L.length / 2=M:=by omega
    rcases Hs (fun m=>prB L m&&spB L m) M with h | ⟨i,h1,h2,h3⟩
    ·have lo:=P4 (I:=I) (c:=c) L f z M hM hl h
     unfold G7 at lo;rw[show dlt L 0=List.replicate L.length 0 from rfl,show clt L 0=List.replicate L.length 0 from rfl,Fz,show 2*((0:Nat):Int)+1=1 from rfl] at lo;rcases Hs (chB L) L.length with k | ⟨i,k1,k2,k3⟩
     ·have lo2:=LL (I:=I) (c:=c) L hl k
      unfold Kz at lo2;rw[hM2] at lo2;rw[show shB L=true by unfold shB rtB;simp[q1,q2,q3,hM2];exact ⟨by simpa using h,k⟩]
      exact sr 195 [pk (Aj 44 103 9 ((L).map (Ac c)) 0 0 ((Ac c) (tat L 0)) (An h00)),pk (Ao 3 ((tat L 0).par) (-1)),pk (Cy (dcn (tat L 0)) (0,0,false) false (decide_eq_true q2)),pk (Al 44 103 3 9 ((L).map (Ac c)) ((L).length:Int)),pk (DJ 3 ((L).length:Int) 2 (by omega)),pk (AO 3 ((((L).length:Int)).tmod 2) 0 false (decide_eq_false (by rw[Int.tmod_eq_emod_of_nonneg (by omega)];omega))),pk (Al 44 103 3 9 ((L).map (Ac c)) ((L).length:Int)),⟨.mk ((L).length:Int) L.length 8,⟨rfl,by omega,by simp[maxLen];omega⟩⟩,⟨.mk ((L).length:Int) L.length 8,⟨rfl,by omega,by simp[maxLen];omega⟩⟩,pk (Al 44 103 3 9 ((L).map (Ac c)) ((L).length:Int)),⟨.mk ((L).length:Int) L.length 8,⟨rfl,by omega,by simp[maxLen];omega⟩⟩,⟨.mk ((L).length:Int) L.length 8,⟨rfl,by omega,by simp[maxLen];omega⟩⟩,pl (lo),pk (Al 44 103 3 9 ((L).map (Ac c)) ((L).length:Int)),pl (lo2)]
     ·have lo2:=KF (I:=I) (c:=c) L hl i k1 k2 k3
      unfold Kz at lo2;rw[hM2] at lo2;rw[show shB L=false by unfold shB;simp only[Bool.and_eq_false_iff];right;rw[List.all_eq_false];exact ⟨i,List.mem_range.2 k1,by simp[k3]⟩]
      exact sr 195 [pk (Aj 44 103 9 ((L).map (Ac c)) 0 0 ((Ac c) (tat L 0)) (An h00)),pk (Ao 3 ((tat L 0).par) (-1)),pk (Cy (dcn (tat L 0)) (0,0,false) false (decide_eq_true q2)),pk (Al 44 103 3 9 ((L).map (Ac c)) ((L).length:Int)),pk (DJ 3 ((L).length:Int) 2 (by omega)),pk (AO 3 ((((L).length:Int)).tmod 2) 0 false (decide_eq_false (by rw[Int.tmod_eq_emod_of_nonneg (by omega)];omega))),pk (Al 44 103 3 9 ((L).map (Ac c)) ((L).length:Int)),⟨.mk ((L).length:Int) L.length 8,⟨rfl,by omega,by simp[maxLen];omega⟩⟩,⟨.mk ((L).length:Int) L.length 8,⟨rfl,by omega,by simp[maxLen];omega⟩⟩,pk (Al 44 103 3 9 ((L).map (Ac c)) ((L).length:Int)),⟨.mk ((L).length:Int) L.length 8,⟨rfl,by omega,by simp[maxLen];omega⟩⟩,⟨.mk ((L).length:Int) L.length 8,⟨rfl,by omega,by simp[maxLen];omega⟩⟩,pl (lo),pk (Al 44 103 3 9 ((L).map (Ac c)) ((L).length:Int)),pl (lo2)]
    ·have lo:=KE (I:=I) (c:=c) L f z i (by omega) hl h2 h3
     unfold G7 at lo;rw[show dlt L 0=List.replicate L.length 0 from rfl,show clt L 0=List.replicate L.length 0 from rfl,Fz,show 2*((0:Nat):Int)+1=1 from rfl] at lo;rw[show shB L=false by unfold shB;simp only[Bool.and_eq_false_iff];left;right;rw[List.all_eq_false];exact ⟨i,List.mem_range.2 (by omega),by simpa using h3⟩]
     exact sr 195 [pk (Aj 44 103 9 ((L).map (Ac c)) 0 0 ((Ac c) (tat L 0)) (An h00)),pk (Ao 3 ((tat L 0).par) (-1)),pk (Cy (dcn (tat L 0)) (0,0,false) false (decide_eq_true q2)),pk (Al 44 103 3 9 ((L).map (Ac c)) ((L).length:Int)),pk (DJ 3 ((L).length:Int) 2 (by omega)),pk (AO 3 ((((L).length:Int)).tmod 2) 0 false (decide_eq_false (by rw[Int.tmod_eq_emod_of_nonneg (by omega)];omega))),pk (Al 44 103 3 9 ((L).map (Ac c)) ((L).length:Int)),⟨.mk ((L).length:Int) L.length 8,⟨rfl,by omega,by simp[maxLen];omega⟩⟩,⟨.mk ((L).length:Int) L.length 8,⟨rfl,by omega,by simp[maxLen];omega⟩⟩,pk (Al 44 103 3 9 ((L).map (Ac c)) ((L).length:Int)),⟨.mk ((L).length:Int) L.length 8,⟨rfl,by omega,by simp[maxLen];omega⟩⟩,⟨.mk ((L).length:Int) L.length 8,⟨rfl,by omega,by simp[maxLen];omega⟩⟩,pl (lo)]
   ·rw[show shB L=false by unfold shB rtB;simp[q3]]
    exact sr 195 [pk (Aj 44 103 9 ((L).map (Ac c)) 0 0 ((Ac c) (tat L 0)) (An h00)),pk (Ao 3 ((tat L 0).par) (-1)),pk (Cy (dcn (tat L 0)) (0,0,false) false (decide_eq_true q2)),pk (Al 44 103 3 9 ((L).map (Ac c)) ((L).length:Int)),pk (DJ 3 ((L).length:Int) 2 (by omega)),pk (AO 3 ((((L).length:Int)).tmod 2) 0 true (decide_eq_true (by rw[Int.tmod_eq_emod_of_nonneg (by omega)];omega)))]
  ·rw[show shB L=false by unfold shB rtB;simp[q2]]
   exact sr 195 [pk (Aj 44 103 9 ((L).map (Ac c)) 0 0 ((Ac c) (tat L 0)) (An h00)),pk (Ao 3 ((tat L 0).par) (-1)),pk (Cy (dcn (tat L 0)) (0,0,false) true (decide_eq_false q2))]
 ·rw[show shB L=false by unfold shB rtB;simp[q1]]
  exact sr 195 [pk (Aj 44 103 9 ((L).map (Ac c)) 0 0 ((Ac c) (tat L 0)) (An h00)),pk (AI 3 ((tat L 0).par) (-1))]
end
def BP (L:List Nd)(i:Nat):Int:=if (tat L i).st < 0∨2 < (tat L i).st then 5 else if okc (tat L i).q then 0 else 5
def Ef (L:List Nd)(f:Bool)(z:Int)(i:Nat):Int:=if (tat L i).st=1 then 0 else if decide ((tat L i).st=2)=DH f z (tat L i).q then 0 else 16
def tvc (L:List Nd)(f:Bool)(z:Int):Int :=
 if L.length < 1∨2000 < L.length then 10 else if BG z=false∨(z≠0∧f=false) then 5 else if AQ (BP L) L.length 0≠0 then AQ (BP L) L.length 0 else if shB L=false then 12 else AQ (Ef L f z) L.length 0
def ZH (c:Bool)(L:List Nd)(f:Bool)(z i:Int):Go.Proofs.YtdgbealknnmkoaaGreatDoor.St:=⟨[(1,.p 0 0),(34,.t (slI 9 ((L).map (Ac c)))),(35,.i (L.length:Int)),(36,.i i)],[(0,some ⟨46,none,[.b (.it (slI 9 ((L).map (Ac c)))),.o f,.i z]⟩)],50⟩
def ZG (c:Bool)(L:List Nd)(f:Bool)(z i:Int):Go.Proofs.YtdgbealknnmkoaaGreatDoor.St:=⟨[(1,.p 0 0),(61,.t (slI 9 ((L).map (Ac c)))),(62,.i (L.length:Int)),(63,.i i)],[(0,some ⟨46,none,[.b (.it (slI 9 ((L).map (Ac c)))),.o f,.i z]⟩)],50⟩
section
variable {I:WInv}{c:Bool}
theorem Mz (L:List Nd)(f:Bool)(z:Int)(hl:L.length≤2000)(i:Nat)(hi:i < L.length) :
  (BP L i=0→Rnd Tryz.prog I 80 (AK Tryz.prog 79 0) (ZH c L f z (i:Int)) .normal (ZH c L f z ((i+1:Nat):Int)))∧(BP L i≠0→Rnd Tryz.prog I 80 (AK Tryz.prog 79 0) (ZH c L f z (i:Int)) .ret ⟨[(2,li 5)],[],50⟩):=by
 by_cases h1:(tat L i).st < 0
 ·refine ⟨fun h=>absurd h (by unfold BP;rw[if_pos (.inl h1)];decide),fun _ => ?_⟩
  exact rr [pk (Ak 3 (i:Int) (L.length:Int)),pk (Aj 44 103 9 ((L).map (Ac c)) i (i:Int) ((Ac c) (tat L i)) (An hi)),pk (Ak 3 ((tat L i).st) 0)]
 ·by_cases h2:2 < (tat L i).st
  ·refine ⟨fun h=>absurd h (by unfold BP;rw[if_pos (.inr h2)];decide),fun _ => ?_⟩
   exact rr [pk (Ak 3 (i:Int) (L.length:Int)),pk (Aj 44 103 9 ((L).map (Ac c)) i (i:Int) ((Ac c) (tat L i)) (An hi)),pk (Ai 3 ((tat L i).st) 0),pk (BY 3 ((tat L i).st) 2)]
  ·cases h3:okc (tat L i).q with
   | false =>
    have e:=J4 h3;refine ⟨fun h=>absurd h (by unfold BP;rw[if_neg (by omega),h3];decide),fun _ => ?_⟩
    exact rr [pk (Ak 3 (i:Int) (L.length:Int)),pk (Aj 44 103 9 ((L).map (Ac c)) i (i:Int) ((Ac c) (tat L i)) (An hi)),pk (Ai 3 ((tat L i).st) 0),pk (Au 3 ((tat L i).st) 2),po (CF (I:=I) (c:=c) (p:=(tat L i).q)),pk (AI 32 (cie ((tat L i).q)) 0)]
   | true =>
    have e:=Fx h3;refine ⟨fun _ => ?_,fun h=>absurd (show BP L i=0 by unfold BP;rw[if_neg (by omega),h3];rfl) h⟩
    exact rr [pk (Ak 3 (i:Int) (L.length:Int)),pk (Aj 44 103 9 ((L).map (Ac c)) i (i:Int) ((Ac c) (tat L i)) (An hi)),pk (Ai 3 ((tat L i).st) 0),pk (Au 3 ((tat L i).st) 2),po (CF (I:=I) (c:=c) (p:=(tat L i).q)),pk (Ao 32 (cie ((tat L i).q)) 0),pk (Ay 3 (i:Int) 1 ⟨by omega,by omega⟩)]
theorem My (L:List Nd)(f:Bool)(z:Int)(hl:L.length≤2000)(i:Nat)(hi:i < L.length) :
  (Ef L f z i=0→Rnd Tryz.prog I 80 (AK Tryz.prog 79 1) (ZG c L f z (i:Int)) .normal (ZG c L f z ((i+1:Nat):Int)))∧(Ef L f z i≠0→Rnd Tryz.prog I 80 (AK Tryz.prog 79 1) (ZG c L f z (i:Int)) .ret ⟨[(2,li 16)],[],50⟩):=by
 have hset:=Js (I:=I) (c:=c) L f z c (tat L i);by_cases h1:(tat L i).st=1
 ·refine ⟨fun _ => ?_,fun h=>absurd (show Ef L f z i=0 by unfold Ef;rw[if_pos h1]) h⟩
  exact rr [pk (Ak 3 (i:Int) (L.length:Int)),pk (Aj 44 103 9 ((L).map (Ac c)) i (i:Int) ((Ac c) (tat L i)) (An hi)),pk (Ao 3 ((tat L i).st) 1),pk (Ay 3 (i:Int) 1 ⟨by omega,by omega⟩)]
 ·cases hs:DH f z (tat L i).q with
  | false =>
   rw[hs] at hset;by_cases h2:(tat L i).st=2
   ·refine ⟨fun h=>absurd h (by unfold Ef;rw[if_neg h1,hs];simp[h2]),fun _ => ?_⟩
    exact rr [pk (Ak 3 (i:Int) (L.length:Int)),pk (Aj 44 103 9 ((L).map (Ac c)) i (i:Int) ((Ac c) (tat L i)) (An hi)),pk (AI 3 ((tat L i).st) 1),pk (Ar 3 ((tat L i).st) 2),po (hset),pa]
   ·refine ⟨fun _ => ?_,fun h=>absurd (show Ef L f z i=0 by unfold Ef;rw[if_neg h1,hs];simp[h2]) h⟩
    exact rr [pk (Ak 3 (i:Int) (L.length:Int)),pk (Aj 44 103 9 ((L).map (Ac c)) i (i:Int) ((Ac c) (tat L i)) (An hi)),pk (AI 3 ((tat L i).st) 1),pk (Ag 3 ((tat L i).st) 2),po (hset),pa,pk (Ay 3 (i:Int) 1 ⟨by omega,by omega⟩)]
  | true =>
   rw[hs] at hset;by_cases h2:(tat L i).st=2
   ·refine ⟨fun _ => ?_,fun h=>absurd (show Ef L f z i=0 by unfold Ef;rw[if_neg h1,hs];simp[h2]) h⟩
    exact rr [pk (Ak 3 (i:Int) (L.length:Int)),pk (Aj 44 103 9 ((L).map (Ac c)) i (i:Int) ((Ac c) (tat L i)) (An hi)),pk (AI 3 ((tat L i).st) 1),pk (Ar 3 ((tat L i).st) 2),po (hset),pa,pk (Ay 3 (i:Int) 1 ⟨by omega,by omega⟩)]
   ·refine ⟨fun h=>absurd h (by unfold Ef;rw[if_neg h1,hs];simp[h2]),fun _ => ?_⟩
    exact rr [pk (Ak 3 (i:Int) (L.length:Int)),pk (Aj 44 103 9 ((L).map (Ac c)) i (i:Int) ((Ac c) (tat L i)) (An hi)),pk (AI 3 ((tat L i).st) 1),pk (Ag 3 ((tat L i).st) 2),po (hset),pa]
theorem Yg {L:List Nd}{i:Nat}(h:BP L i≠0):BP L i=5:=by
 unfold BP at h ⊢;split
 ·rfl
 ·rename_i h1
  rw[if_neg h1] at h;split
  ·rename_i h2;rw[if_pos h2] at h;exact absurd rfl h
  ·rfl
theorem ZX {L:List Nd}{f:Bool}{z:Int}{i:Nat}(h:Ef L f z i≠0):Ef L f z i=16:=by
 unfold Ef at h ⊢;split
 ·rename_i h1;rw[if_pos h1] at h;exact absurd rfl h
 ·rename_i h1
  rw[if_neg h1] at h;split
  ·rename_i h2;rw[if_pos h2] at h;exact absurd rfl h
  ·rfl
theorem FN (L : List Nd) (f : Bool) (z : Int) (hl : L.length ≤ 1000000000) : Sp Tryz.prog I 79 [trT c L f z] (li (tvc L f z)) := by
 unfold tvc;by_cases h1:L.length < 1
 ·rw[if_pos (.inl h1)]
  exact sr 80 [pk (Al 44 103 3 9 ((L).map (Ac c)) ((L).length:Int)),pk (Ak 3 ((L).length:Int) 1)]
 ·by_cases h2 : 2000 < L.length
  ·rw[if_pos (.inr h2)]
   exact sr 80 [pk (Al 44 103 3 9 ((L).map (Ac c)) ((L).length:Int)),pk (Ai 3 ((L).length:Int) 1),pk (Al 44 103 3 9 ((L).map (Ac c)) ((L).length:Int)),pk (BY 3 ((L).length:Int) 2000)]
  ·rw [if_neg (by omega)]
   have hc:=Ml (I:=I) z;have l1:=CM (P:=Tryz.prog) (I:=I) (nt:=80) (c:=AK Tryz.prog 79 0) (e:=0) (b0:=⟨[(1,.p 0 0)],[(0,some ⟨46,none,[.b (.it (slI 9 ((L).map (Ac c)))),.o f,.i z]⟩)],50⟩) (BP L) L.length (fun i=>ZH c L f z i) (fun r=>⟨[(2,li r)],[],50⟩) (fun i hi hc=>(Mz L f z (by omega) i hi).1 hc) (by
    exact rr [pk (Ai 3 (L.length:Int) (L.length:Int))]) (fun i hi hc=>by
    rw[Yg hc];exact (Mz L f z (by omega) i hi).2 hc)
   have l2:=CM (P:=Tryz.prog) (I:=I) (nt:=80) (c:=AK Tryz.prog 79 1) (e:=2) (b0:=⟨[],[],50⟩) (Ef L f z) L.length (fun i=>ZG c L f z i) (fun r=>⟨[(2,li r)],[],50⟩) (fun i hi hc=>(My L f z (by omega) i hi).1 hc) (by
    exact rr [pk (Ai 3 (L.length:Int) (L.length:Int))]) (fun i hi hc=>by
    rw[ZX hc];exact (My L f z (by omega) i hi).2 hc)
   have hs:=V8 (I:=I) (c:=c) L f z (by omega) (by omega)
   cases hcb:BG z with
   | false =>
    rw[hcb] at hc;rw[if_pos (.inl rfl)];exact sr 80 [pk (Al 44 103 3 9 ((L).map (Ac c)) ((L).length:Int)),pk (Ai 3 ((L).length:Int) 1),pk (Al 44 103 3 9 ((L).map (Ac c)) ((L).length:Int)),pk (Au 3 ((L).length:Int) 2000),po (hc),pa]
   | true =>
    rw[hcb] at hc;have tail : ∀ (P1:(AQ (BP L) L.length 0≠0→Sp Tryz.prog I 79 [trT c L f z] (li (AQ (BP L) L.length 0)))) (P2:AQ (BP L) L.length 0=0→shB L=false→Sp Tryz.prog I 79 [trT c L f z] (li 12)) (P3:AQ (BP L) L.length 0=0→shB L=true→Sp Tryz.prog I 79 [trT c L f z] (li (AQ (Ef L f z) L.length 0))),Sp Tryz.prog I 79 [trT c L f z] (li (if AQ (BP L) L.length 0≠0 then AQ (BP L) L.length 0 else if shB L=false then 12 else AQ (Ef L f z) L.length 0)):=by
     intro P1 P2 P3;by_cases h5:AQ (BP L) L.length 0=0
     ·rw[if_neg (fun h=>h h5)]
      cases h6:shB L with
      | false=>rw[if_pos rfl];exact P2 h5 h6
      | true=>rw[if_neg (by decide)];exact P3 h5 h6
     ·rw[if_pos h5];exact P1 h5
    by_cases hz:z=0
    ·rw[if_neg (by simp[hz])]
     refine tail (fun h5 => ?_) (fun h5 h6 => ?_) (fun h5 h6 => ?_)
     ·have lo:=l1.2 h5
      generalize AQ (BP L) L.length 0=r at *;exact sr 80 [pk (Al 44 103 3 9 ((L).map (Ac c)) ((L).length:Int)),pk (Ai 3 ((L).length:Int) 1),pk (Al 44 103 3 9 ((L).map (Ac c)) ((L).length:Int)),pk (Au 3 ((L).length:Int) 2000),po (hc),pa,pk (Ao 3 z 0),pk (Al 44 103 3 9 ((L).map (Ac c)) ((L).length:Int)),pl (lo)]
     ·have lo:=l1.1 h5
      rw[h6] at hs;exact sr 80 [pk (Al 44 103 3 9 ((L).map (Ac c)) ((L).length:Int)),pk (Ai 3 ((L).length:Int) 1),pk (Al 44 103 3 9 ((L).map (Ac c)) ((L).length:Int)),pk (Au 3 ((L).length:Int) 2000),po (hc),pa,pk (Ao 3 z 0),pk (Al 44 103 3 9 ((L).map (Ac c)) ((L).length:Int)),pl (lo),po (hs),pa]
     ·have lo:=l1.1 h5
      rw[h6] at hs;by_cases h7:AQ (Ef L f z) L.length 0=0
      ·have lo2:=l2.1 h7
       rw[h7];exact sr 80 [pk (Al 44 103 3 9 ((L).map (Ac c)) ((L).length:Int)),pk (Ai 3 ((L).length:Int) 1),pk (Al 44 103 3 9 ((L).map (Ac c)) ((L).length:Int)),pk (Au 3 ((L).length:Int) 2000),po (hc),pa,pk (Ao 3 z 0),pk (Al 44 103 3 9 ((L).map (Ac c)) ((L).length:Int)),pl (lo),po (hs),pa,pk (Al 44 103 3 9 ((L).map (Ac c)) ((L).length:Int)),pl (lo2)]
      ·have lo2:=l2.2 h7
       generalize AQ (Ef L f z) L.length 0=r at *;exact sr 80 [pk (Al 44 103 3 9 ((L).map (Ac c)) ((L).length:Int)),pk (Ai 3 ((L).length:Int) 1),pk (Al 44 103 3 9 ((L).map (Ac c)) ((L).length:Int)),pk (Au 3 ((L).length:Int) 2000),po (hc),pa,pk (Ao 3 z 0),pk (Al 44 103 3 9 ((L).map (Ac c)) ((L).length:Int)),pl (lo),po (hs),pa,pk (Al 44 103 3 9 ((L).map (Ac c)) ((L).length:Int)),pl (lo2)]
    ·cases f with
     | false =>
      rw[if_pos (.inr ⟨hz,rfl⟩)];exact sr 80 [pk (Al 44 103 3 9 ((L).map (Ac c)) ((L).length:Int)),pk (Ai 3 ((L).length:Int) 1),pk (Al 44 103 3 9 ((L).map (Ac c)) ((L).length:Int)),pk (Au 3 ((L).length:Int) 2000),po (hc),pa,pk (AI 3 z 0),pa]
     | true =>
      rw[if_neg (by simp)]
      refine tail (fun h5 => ?_) (fun h5 h6 => ?_) (fun h5 h6 => ?_)
      ·have lo:=l1.2 h5
       generalize AQ (BP L) L.length 0=r at *;exact sr 80 [pk (Al 44 103 3 9 ((L).map (Ac c)) ((L).length:Int)),pk (Ai 3 ((L).length:Int) 1),pk (Al 44 103 3 9 ((L).map (Ac c)) ((L).length:Int)),pk (Au 3 ((L).length:Int) 2000),po (hc),pa,pk (AI 3 z 0),pa,pk (Al 44 103 3 9 ((L).map (Ac c)) ((L).length:Int)),pl (lo)]
      ·have lo:=l1.1 h5
       rw[h6] at hs;exact sr 80 [pk (Al 44 103 3 9 ((L).map (Ac c)) ((L).length:Int)),pk (Ai 3 ((L).length:Int) 1),pk (Al 44 103 3 9 ((L).map (Ac c)) ((L).length:Int)),pk (Au 3 ((L).length:Int) 2000),po (hc),pa,pk (AI 3 z 0),pa,pk (Al 44 103 3 9 ((L).map (Ac c)) ((L).length:Int)),pl (lo),po (hs),pa]
      ·have lo:=l1.1 h5
       rw[h6] at hs;by_cases h7:AQ (Ef L true z) L.length 0=0
       ·have lo2:=l2.1 h7
        rw[h7];exact sr 80 [pk (Al 44 103 3 9 ((L).map (Ac c)) ((L).length:Int)),pk (Ai 3 ((L).length:Int) 1),pk (Al 44 103 3 9 ((L).map (Ac c)) ((L).length:Int)),pk (Au 3 ((L).length:Int) 2000),po (hc),pa,pk (AI 3 z 0),pa,pk (Al 44 103 3 9 ((L).map (Ac c)) ((L).length:Int)),pl (lo),po (hs),pa,pk (Al 44 103 3 9 ((L).map (Ac c)) ((L).length:Int)),pl (lo2)]
       ·have lo2:=l2.2 h7
        generalize AQ (Ef L true z) L.length 0=r at *;exact sr 80 [pk (Al 44 103 3 9 ((L).map (Ac c)) ((L).length:Int)),pk (Ai 3 ((L).length:Int) 1),pk (Al 44 103 3 9 ((L).map (Ac c)) ((L).length:Int)),pk (Au 3 ((L).length:Int) 2000),po (hc),pa,pk (AI 3 z 0),pa,pk (Al 44 103 3 9 ((L).map (Ac c)) ((L).length:Int)),pl (lo),po (hs),pa,pk (Al 44 103 3 9 ((L).map (Ac c)) ((L).length:Int)),pl (lo2)]
end
theorem DM {L : List Nd} {f : Bool} {z : Int} (h : tvc L f z = 0) : 1 ≤ L.length ∧ L.length ≤ 2000 ∧ BG z = true ∧ (z = 0 ∨ f = true) ∧ AQ (BP L) L.length 0 = 0 ∧ shB L = true ∧ AQ (Ef L f z) L.length 0 = 0 := by
 unfold tvc at h;by_cases h1:L.length < 1∨2000 < L.length
 ·rw[if_pos h1] at h;omega
 ·rw [if_neg h1] at h
  by_cases h2:BG z=false∨(z≠0∧f=false)
  ·rw[if_pos h2] at h;omega
  ·rw [if_neg h2] at h
   by_cases h3:AQ (BP L) L.length 0≠0
   ·rw[if_pos h3] at h;exact absurd h h3
   ·rw[if_neg h3] at h
    by_cases h4:shB L=false
    ·rw[if_pos h4] at h;omega
    ·rw[if_neg h4] at h
     refine ⟨by omega,by omega,?_,?_,by omega,by simpa using h4,h⟩
     ·cases hc:BG z with
      | true=>rfl
      | false=>exact absurd (.inl hc) h2
     ·by_cases hz:z=0
      ·exact .inl hz
      ·cases f with
       | true=>exact .inr rfl
       | false=>exact absurd (.inr ⟨hz,rfl⟩) h2
theorem KG {L:List Nd}(h:shB L=true):L.length % 2=1∧Dn L (L.length - 1):=by
 unfold shB rtB at h;simp only[Bool.and_eq_true,List.all_eq_true,List.mem_range,decide_eq_true_eq] at h;obtain ⟨⟨⟨_,h1⟩,h2⟩,_⟩:=h;refine ⟨h1,?_⟩;have:=Lf (L:=L) (m:=L.length / 2) fun x hx=>(h2 x hx).1
 rw[show L.length - 1=2*(L.length / 2) by omega]
 exact this
section
variable {P:Program}{I:WInv}{N:Nat→Prop}{w:World}
def It.fz (i:Item):It→It
 | .sl _ => .b (.it i)
 | x=>x
def CT.fz (i:Item):CT→CT
 | .one x => .one (x.fz i)
 | .ag l => .ag (l.map (It.fz i))
def TV.fz (i:Item):TV→TV
 | .cv c => .cv (c.fz i)
 | .tu l => .tu (l.map (CT.fz i))
def It.ok2:It→Bool
 | .sl k=>Nat.beq k 2
 | .ptr _ _=>false
 | .clo _ _=>false
 | _=>true
def CT.ok2:CT→Bool
 | .one x=>x.ok2
 | .ag l=>l.all It.ok2
def TV.ok2:TV→Bool
 | .cv c=>c.ok2
 | .tu l=>l.all CT.ok2
variable {N1:Nat→Prop}{g:Gh}{i:Item}
theorem It.fz_sem (hN : ∀ b,N b→N1 b)(hs : ∀ l,(It.sl 2).sem N w g l→i.T N1 w l){x:It}{l:List Value}(hx:x.ok2=true)(h:x.sem N w g l):(x.fz i).sem N1 w G0 l:=by
 cases x with
 | b x=>exact It0.step h (WStep.refl _ _) hN
 | ptr k off=>cases hx
 | clo f p=>cases hx
 | fp x=>obtain ⟨b,off,h1,h2⟩:=h;exact ⟨b,off,h1,h2.step (WStep.refl _ _) hN⟩
 | sl k =>
  have:=Nat.eq_of_beq_eq_true hx;subst this;exact hs l h
theorem Ue (hN : ∀ b,N b→N1 b)(hs : ∀ l,(It.sl 2).sem N w g l→i.T N1 w l) : ∀ {xs:List It} {l:List Value},xs.all It.ok2=true→Bi N w g xs l→Bi N1 w G0 (xs.map (It.fz i)) l
 | [],_,_,h=>h
 | x::xs,_,hn,⟨l1,l2,e,h1,h2⟩=>by
  simp only[List.all_cons,Bool.and_eq_true] at hn;exact ⟨l1,l2,e,It.fz_sem hN hs hn.1 h1,Ue hN hs hn.2 h2⟩
theorem CT.fz_sem (hN : ∀ b,N b→N1 b)(hs : ∀ l,(It.sl 2).sem N w g l→i.T N1 w l){c:CT}{v:Value}(hc:c.ok2=true)(h:c.sem N w g v):(c.fz i).sem N1 w G0 v:=by
 cases c with
 | one x=>exact It.fz_sem hN hs hc h
 | ag l=>obtain ⟨vs,e,h1⟩:=h;exact ⟨vs,e,Ue hN hs hc h1⟩
theorem Vb (hN : ∀ b,N b→N1 b)(hs : ∀ l,(It.sl 2).sem N w g l→i.T N1 w l) : ∀ {cs:List CT} {vs:List Value},cs.all CT.ok2=true→all2 (CT.sem N w g) cs vs→all2 (CT.sem N1 w G0) (cs.map (CT.fz i)) vs
 | [],_,_,h=>h
 | c::cs,_,hn,⟨v,l,e,h1,h2⟩=>by
  simp only[List.all_cons,Bool.and_eq_true] at hn;exact ⟨v,l,e,CT.fz_sem hN hs hn.1 h1,Vb hN hs hn.2 h2⟩
theorem TV.fz_sem (hN : ∀ b,N b→N1 b)(hs : ∀ l,(It.sl 2).sem N w g l→i.T N1 w l){c:TV}{v:Value}(hc:c.ok2=true)(h:c.sem N w g v):(c.fz i).sem N1 w G0 v:=by
 cases c with
 | cv x=>exact CT.fz_sem hN hs hc h
 | tu l=>obtain ⟨vs,e,h1⟩:=h;exact ⟨vs,e,Vb hN hs hc h1⟩
theorem VZ {K:Nat→Prop}{k T sz n:Nat}{rows:List (List It0)}(hbox:BoxSem N w g K k ⟨T,some (sz,n),Aa rows⟩)(hn:n=rows.length)(hw : ∀ r∈rows,Ce r=sz){l:List Value}(h:(It.sl k).sem N w g l):(slI sz rows).T (fun b=>N b∨AJ g k=some b) w l:=Rt hbox hn hw h
theorem SpM.freeze {f:FuncId}{args:List CT}{res:TV}{T sz n:Nat}{rows:List (List It0)}(h:SpM P I f [] args [(2,some ⟨T,some (sz,n),Aa rows⟩)] res)(hn:n=rows.length)(hw : ∀ r∈rows,Ce r=sz)(hok:res.ok2=true):Sp P I f args (res.fz (slI sz rows)):=by
 intro N w vs hI hlow hargs;refine (h N (fun b=>b < w.heap.size) w G0 vs hI hlow (fun b hb=>hb) (fun k e he=>by cases he) (fun k j e e' b he=>by cases he) (fun k _=>rfl) hargs).mono ?_
 rintro en w' ⟨v,N',g',rfl,q1,q2,q3,q4,q5,q6,q7⟩;have hbox:=q4 2 _ rfl;refine ⟨v,rfl,?_,Mn q3⟩;have hx:=TV.fz_sem (N:=N') (N1:=fun b=>N' b∨AJ g' 2=some b) (i:=slI sz rows) (fun b hb => .inl hb) (fun l hl=>VZ hbox hn hw hl) hok q7
 refine TV.step hx (WStep.refl _ _) ?_ (GExt.refl _);rintro b (hb | hb)
 ·rcases q2 b hb with hb | ⟨hb1,hb2⟩
  ·exact .inl hb
  ·exact .inr ⟨Nat.not_lt.1 hb1,hb2⟩
 ·obtain ⟨cs,m,h1,_,_,h4,h5,_⟩:=hbox.at hb
  exact .inr ⟨Nat.not_lt.1 h5,(Array.getElem?_eq_some_iff.1 h1).1⟩
end
section
variable {P:Program}{I:WInv}
theorem QX {N:Nat→Prop}{w:World}{b sz:Nat}{cs:Array Value}{T:TypeId}{fr:Nat×Nat}(hb:w.heap[b]? = some (.cells cs T fr)) : ∀ (rows:List (List It0)) (off:Nat),(∀ r∈rows,Ce r=sz)→(∀ i r,rows[i]? = some r→RowAt N w b (off+i*sz) r) → ∃ vs:List Value,vs.length=rows.length*sz∧Dy N w rows.flatten vs∧(cs.toList.drop off).take vs.length=vs
 | [],off,_,_=>⟨[],by simp,rfl,by simp⟩
 | r::rows,off,hw,h=>by
  obtain ⟨cs',T',fr',us,_,h2,h3,h4⟩:=h 0 r rfl;rw[hb] at h2;injection h2 with h2;injection h2 with e1 e2 e3;subst e1;rw[Nat.zero_mul,Nat.add_zero] at h3;have hl:=Hm h4;rw[hw r (by simp)] at hl
  obtain ⟨vs,k1,k2,k3⟩:=QX hb rows (off+sz) (fun q hq=>hw q (by simp[hq])) fun i q hi=>by
   have:=h (i+1) q (by simpa using hi)
   rw[Nat.add_mul,Nat.one_mul] at this;rw[show off+sz+i*sz=off+(i*sz+sz) by omega];exact this
  refine ⟨us++vs,by rw[List.length_append,hl,k1,List.length_cons,Nat.add_mul];omega,?_,?_⟩
  ·have app : ∀ {xs ys:List It0} {l1 l2:List Value},Dy N w xs l1→Dy N w ys l2→Dy N w (xs++ys) (l1++l2):=by
    intro xs;induction xs with
    | nil=>intro ys l1 l2 a b;rw[show l1=[] from a];exact b
    | cons x xs ih=>rintro ys l1 l2 ⟨p,q,e,a1,a2⟩ b;exact ⟨p,q++l2,by rw[e,List.append_assoc],a1,ih a2 b⟩
   exact app h4 k2
  ·rw[List.length_append,List.take_add,h3,List.drop_drop,hl,k3]
theorem Cg {sz:Nat}{rows:List (List It0)}(hw : ∀ r∈rows,Ce r=sz)(hok:(rows.flatten.map It.b).all It.okB=true):Vd sz (slI sz rows) rows.length rows.flatten:=by
 rintro N w l ⟨A,c,e,h1,h2,h3⟩;by_cases hne:rows=[]
 ·subst hne
  cases A with
  | none=>exact ⟨none,c,e,.inl ⟨rfl,rfl,rfl⟩⟩
  | some a=>exact ⟨some a,c,e,.inr ⟨a,[],rfl,by simp,rfl,by simp,by simp⟩⟩
 obtain ⟨b,off,rfl,hr⟩:=h3 hne;obtain ⟨r0,rs,hrows⟩:=List.exists_cons_of_ne_nil hne;obtain ⟨cs,T,fr,_,_,hb,_,_⟩:=hr 0 r0 (by rw[hrows];rfl)
 obtain ⟨vs,k1,k2,k3⟩:=QX hb rows off hw hr;refine ⟨_,c,e,.inr ⟨_,vs,rfl,k1,k2,DO (g:=G0) (Dv k2) hok,?_⟩⟩;intro j u hj;rw[Dt];have hj':=hj;rw[←k3,List.getElem?_take] at hj;split at hj
 ·rw[List.getElem?_drop] at hj
  simp only[World.cell?,hb];simpa using hj
 ·cases hj
theorem Kp (w:World)(d:Nat){t e:TypeId}{a:Addr}{n c:Nat}(ht:P.underlying t=some (.slice e)):(Op.equalIn (d+1) t (.slice (some a) n c) (.slice none 0 0)).run P w = .ok false w:=by
 simp[Op.equalIn,AP ht]
theorem Acf {t e:TypeId}{sz:Nat}{rows:List (List It0)}(ht:P.underlying t=some (.slice e))(hne:rows≠[]):Bx P (.bin .eql t) [tit (slI sz rows),B0 (.slice none 0 0)] (lb false):=by
 intro N w g vs hv;obtain ⟨v,x,rfl,⟨A,c,e1,_,_,h⟩,h2⟩:=D4 hv;injection e1 with e1;subst e1;have h2:[x]=[.slice none 0 0]:=h2;injection h2 with h2;subst h2;obtain ⟨b,off,rfl,_⟩:=h hne;refine ⟨.bool false,w,?_,Below.refl _ _,(rfl:[_]=[_])⟩;have key:(Op.equal t (.slice (some ⟨b,off,none⟩) rows.length c) (.slice none 0 0)).run P w = .ok false w:=Kp w 9999 ht;simp only[OpK.run,Sem.run_bind,eqGuard];simp[binOp,key]
end
theorem P9 {c:Bool}{L:List Nd}:okR 9 (L.map (Ac c)):=by
 intro r hr;obtain ⟨x,_,rfl⟩:=List.mem_map.1 hr;refine ⟨rfl,fun y hy => ?_⟩
 simp at hy;rcases hy with rfl | rfl | rfl | rfl | rfl | rfl <;> first | exact Nat.one_pos | exact (by decide:0 < 4)
theorem EH {c:Bool}{L:List Nd} : ∀ r∈L.map (Ac c),Ce r=9:=fun r hr=>(P9 r hr).1
theorem SJ {c:Bool}{L:List Nd}:((L.map (Ac c)).flatten.map It.b).all It.okB=true:=by
 rw[List.all_eq_true];intro x hx;obtain ⟨y,hy,rfl⟩:=List.mem_map.1 hx;obtain ⟨r,hr,hy⟩:=List.mem_flatten.1 hy;obtain ⟨d,_,rfl⟩:=List.mem_map.1 hr;simp at hy;rcases hy with rfl | rfl | rfl | rfl | rfl | rfl <;> rfl
theorem BH {c:Bool}{L:List Nd}{i fo n:Nat}{m:List It}(h:i < L.length)(hs:Gt ((Ac c (tat L i)).map It.b) fo n=some m):Gt (Aa (L.map (Ac c))) (i*9+fo) n=some m:=Hg (An h) P9 hs
theorem Jp {c:Bool}{L:List Nd}{i fo:Nat}{new:List It}(h:i < L.length)(y:Nd)(hu:EE ((Ac c (tat L i)).map It.b) fo new=some ((Ac c y).map It.b)):EE (Aa (L.map (Ac c))) (i*9+fo) new=some (Aa ((L.set i y).map (Ac c))):=by
 have:=JC (sz:=9) (An (f:=Ac c) h) P9 hu;rw[←List.map_set] at this;exact this
structure Ch where
 kind:Int
 node:Int
 q:Rat
 fst:Int
 nxt:Int
 cost:Int
abbrev chT (c:Bool)(x:Ch):CT := .ag [.i x.kind,.i x.node,.b (.it (fF c 12 x.q)),.i x.fst,.i x.nxt,.i x.cost]
abbrev tbx (f:Bool)(z:Int)(k:Nat):Ent:=⟨46,none,[.sl k,.o f,.i z]⟩
abbrev nbx (c:Bool)(L:List Nd)(n:Nat):Ent:=⟨103,some (9,n),Aa (L.map (Ac c))⟩
section
variable {I:WInv}{c c':Bool}{p:Rat}
theorem Qk:Sp Tryz.prog I 84 [fc c' 12 p] (tfc c 12 p):=(Kj (c:=c')).rs (UF (fun _=>rfl) (Nat.le_refl _) rfl).tv
theorem OV (L:List Nd)(h0:0 < L.length)(hl:L.length≤1000000):SpN Tryz.prog I 83 [.t (trI c L)] none (nbx c L L.length):=by
 have hlen:(L.map (Ac c)).length=L.length:=List.length_map _;have hne:L.map (Ac c)≠[]:=fun h=>by rw[h] at hlen;simp at hlen;omega
 have hl2:=hl;rw[←hlen] at hl2;have h:SpN Tryz.prog I 83 [.t (trI c L)] none (nbx c L (0+(L.map (Ac c)).length)):=sn 8 5 [pk (Acf (P:=Tryz.prog) (t:=44) (e:=103) (sz:=9) (rows:=L.map (Ac c)) (by kernel_rfl) hne),⟨.src 9 (slI 9 (L.map (Ac c))) (L.map (Ac c)).length (L.map (Ac c)).flatten,Cg EH SJ⟩,⟨.ap 0 ((L.map (Ac c)).length) 104,⟨by omega,by simp[maxLen];omega⟩⟩] (Aw _)
 rw[Nat.zero_add,hlen] at h;exact h
end
theorem Pu {L:List Nd}{i j:Nat}{y:Nd}(h:i < L.length):tat (L.set i y) j=if i=j then y else tat L j:=by
 unfold tat;rw[List.getD_eq_getElem?_getD,List.getD_eq_getElem?_getD,List.getElem?_set];by_cases hij:i=j
 ·subst hij;rw[if_pos rfl,if_pos rfl,if_pos h];rfl
 ·rw[if_neg hij,if_neg hij]
theorem QJ {L M:List Nd}{i:Nat}(h:i < L.length):tat (L++M) i=tat L i:=by
 unfold tat;rw[List.getD_eq_getElem?_getD,List.getD_eq_getElem?_getD,List.getElem?_append_left h]
def raE (L:List Nd)(x:Ch):Int:=if x.node < 0∨(L.length:Int)≤x.node then 5 else if okc x.q=false then 5 else if (tat L x.node.toNat).st≠0 then 16 else 0
def raL (L:List Nd)(x:Ch):List Nd:=if (tat L x.node.toNat).q < x.q then L.set x.node.toNat ⟨(tat L x.node.toNat).par,(tat L x.node.toNat).fst,(tat L x.node.toNat).nxt,(tat L x.node.toNat).tog,x.q,(tat L x.node.toNat).st⟩ else L
def fiE (x:Ch):Int:=if BG x.cost then 0 else 5
def spE (L:List Nd)(x:Ch):Int:=if x.node < 0∨(L.length:Int)≤x.node∨x.fst < 0∨x.nxt < 0∨x.fst=x.nxt then 5 else if (tat L x.node.toNat).st≠0 then 16 else if 2000 < L.length+2∨32≤(Ba L x.node.toNat).length then 10 else if Ev L x.node.toNat x.fst x.nxt then 20 else 0
def kid (L:List Nd)(x:Ch)(b:Bool):Nd:=⟨x.node,x.fst,x.nxt,b,(tat L x.node.toNat).q,0⟩
def Bk (L:List Nd)(i:Nat):List Nd:=L.set i ⟨(tat L i).par,(tat L i).fst,(tat L i).nxt,(tat L i).tog,(tat L i).q,1⟩
def spL (L:List Nd)(x:Ch):List Nd:=Bk L x.node.toNat++[kid L x true,kid L x false]
theorem Sr {a b:Rat}(h:b < a):decide (CJ a b > 0)=true:=by
 unfold CJ;rw[if_neg (by grind),if_neg (by grind)];rfl
theorem Ss {a b:Rat}(h : ¬ b < a):decide (CJ a b > 0)=false:=by
 unfold CJ;by_cases h1:a < b
 ·rw[if_pos h1];rfl
 ·rw[if_neg h1,if_pos (by grind)];rfl
section
variable {I:WInv}{c c':Bool}
theorem VN (L : List Nd) (f : Bool) (z : Int) (n : Nat) (hn : L.length = n) (x : Ch) (h : raE L x ≠ 0) : SpM Tryz.prog I 122 [(0, some (tbx f z 1)), (1, some (nbx c L n))] [.one (.ptr 0 0), chT c' x] [(0, some (tbx f z 1)), (1, some (nbx c L n))] (li (raE L x)) := by
 unfold raE at h ⊢;by_cases h1:x.node < 0
 ·rw[if_pos (.inl h1)]
  exact sm 55 [pk (Ak 3 x.node 0)]
 ·by_cases h2:(L.length:Int)≤x.node
  ·rw[if_pos (.inr h2)]
   exact sm 55 [pk (Ai 3 x.node 0),pk (Bn 3 x.node (n:Nat))]
  ·rw[if_neg (by omega)] at h ⊢
   have hce:=CF (I:=I) (c:=c') (p:=x.q);cases h3:okc x.q with
   | false =>
    rw[J4 h3] at hce;rw[if_pos rfl];exact sm 55 [pk (Ai 3 x.node 0),pk (Bd 3 x.node (n:Nat)),po (hce),pa]
   | true =>
    rw[Fx h3] at hce;rw[h3,if_neg (by decide)] at h
    rw[if_neg (by decide)]
    obtain ⟨i,hni⟩ : ∃ i:Nat,x.node=(i:Int):=⟨x.node.toNat,by omega⟩
    have hi:i < L.length:=by omega
    have ht:x.node.toNat=i:=by omega
    rw[ht] at h ⊢;by_cases h4:(tat L i).st=0
    ·rw[if_neg (by simp[h4])] at h;exact absurd rfl h
    ·rw[if_pos h4]
     exact sm 55 [pk (Ai 3 x.node 0),pk (Bd 3 x.node (n:Nat)),po (hce),pa,⟨.ix x.node i n,⟨by omega,by omega⟩⟩,⟨.part (Aa ((L).map (Ac c))) (i*9+8) 1 [.i ((tat L i).st)],(BH (c:=c) (fo:=8) (n:=1) hi rfl)⟩,pk (D3 3 ((tat L i).st) 0 true (decide_eq_false h4))]
theorem XR (L : List Nd) (f : Bool) (z : Int) (n : Nat) (hn : L.length = n) (x : Ch) (h : raE L x = 0) : SpM Tryz.prog I 122 [(0, some (tbx f z 1)), (1, some (nbx c L n))] [.one (.ptr 0 0), chT c' x] [(0, some (tbx f z 1)), (1, some (nbx c (raL L x) n))] (li 0) := by
 unfold raE at h;unfold raL;by_cases h1:x.node < 0∨(L.length:Int)≤x.node
 ·rw[if_pos h1] at h;omega
 ·rw[if_neg h1] at h
  cases h3:okc x.q with
  | false=>rw[h3,if_pos rfl] at h;omega
  | true =>
   rw[h3,if_neg (by decide)] at h
   have hce:=CF (I:=I) (c:=c') (p:=x.q);rw[Fx h3] at hce;obtain ⟨i,hni⟩ : ∃ i:Nat,x.node=(i:Int):=⟨x.node.toNat,by omega⟩
   have hi:i < L.length:=by omega
   have ht:x.node.toNat=i:=by omega
   rw[ht] at h ⊢;by_cases h4:(tat L i).st=0
   ·by_cases h5:(tat L i).q < x.q
    ·rw[if_pos h5]
     exact sm 55 [pk (Ai 3 x.node 0),pk (Bd 3 x.node (n:Nat)),po (hce),pa,⟨.ix x.node i n,⟨by omega,by omega⟩⟩,⟨.part (Aa ((L).map (Ac c))) (i*9+8) 1 [.i ((tat L i).st)],(BH (c:=c) (fo:=8) (n:=1) hi rfl)⟩,pk (D3 3 ((tat L i).st) 0 false (decide_eq_true h4)),⟨.part ([.i x.kind,.i x.node,.b (.it (fF c' 12 x.q)),.i x.fst,.i x.nxt,.i x.cost]) 2 4 [.b (.it (fF c' 12 x.q))],rfl⟩,⟨.part (Aa ((L).map (Ac c))) (i*9+4) 4 [.b (.it (fF c 12 (tat L i).q))],(BH (c:=c) (fo:=4) (n:=4) hi rfl)⟩,po (TB (I:=I) (c:=c') (c':=c) (k:=12) (j:=12) (p:=x.q) (q:=(tat L i).q) (r:=CJ x.q ((tat L i).q)) rfl (by omega)),pk (Dj 3 (CJ x.q ((tat L i).q)) 0 true (Sr h5)),po (Qk (I:=I) (c:=c) (c':=c') (p:=x.q)),⟨.upd (Aa ((L).map (Ac c))) (i*9+4) [.b (.it (fF c 12 x.q))] (Aa (((L).set i ⟨(tat L i).par,(tat L i).fst,(tat L i).nxt,(tat L i).tog,x.q,(tat L i).st⟩).map (Ac c))),(Jp (c:=c) (fo:=4) hi ⟨(tat L i).par,(tat L i).fst,(tat L i).nxt,(tat L i).tog,x.q,(tat L i).st⟩ rfl)⟩]
    ·rw[if_neg h5]
     exact sm 55 [pk (Ai 3 x.node 0),pk (Bd 3 x.node (n:Nat)),po (hce),pa,⟨.ix x.node i n,⟨by omega,by omega⟩⟩,⟨.part (Aa ((L).map (Ac c))) (i*9+8) 1 [.i ((tat L i).st)],(BH (c:=c) (fo:=8) (n:=1) hi rfl)⟩,pk (D3 3 ((tat L i).st) 0 false (decide_eq_true h4)),⟨.part ([.i x.kind,.i x.node,.b (.it (fF c' 12 x.q)),.i x.fst,.i x.nxt,.i x.cost]) 2 4 [.b (.it (fF c' 12 x.q))],rfl⟩,⟨.part (Aa ((L).map (Ac c))) (i*9+4) 4 [.b (.it (fF c 12 (tat L i).q))],(BH (c:=c) (fo:=4) (n:=4) hi rfl)⟩,po (TB (I:=I) (c:=c') (c':=c) (k:=12) (j:=12) (p:=x.q) (q:=(tat L i).q) (r:=CJ x.q ((tat L i).q)) rfl (by omega)),pk (Dj 3 (CJ x.q ((tat L i).q)) 0 false (Ss h5))]
   ·rw[if_pos h4] at h;omega
def fnF (f:Bool)(z:Int)(x:Ch):Bool×Int:=if f=false∨x.cost < z then (true,x.cost) else (f,z)
theorem YA (f:Bool)(z:Int)(k:Ent)(x:Ch)(h:fiE x≠0):SpM Tryz.prog I 124 [(0,some (tbx f z 1)),(1,some k)] [.one (.ptr 0 0),chT c' x] [(0,some (tbx f z 1)),(1,some k)] (li (fiE x)):=by
 unfold fiE at h ⊢;have hc:=Ml (I:=I) x.cost;cases h1:BG x.cost with
 | true=>rw[h1] at h;exact absurd rfl h
 | false =>
  rw[h1] at hc;exact sm 31 [po (hc),pa]
theorem AaF (f:Bool)(z:Int)(k:Ent)(x:Ch)(h:fiE x=0):SpM Tryz.prog I 124 [(0,some (tbx f z 1)),(1,some k)] [.one (.ptr 0 0),chT c' x] [(0,some (tbx (fnF f z x).1 (fnF f z x).2 1)),(1,some k)] (li 0):=by
 have h1:BG x.cost=true:=by
  unfold fiE at h;cases h1:BG x.cost with
  | true=>rfl
  | false=>rw[h1] at h;exact absurd h (by decide)
 have hc:=Ml (I:=I) x.cost;rw[h1] at hc;unfold fnF;cases f with
 | false =>
  rw[if_pos (.inl rfl)];exact sm 31 [po (hc),pa,pa]
 | true =>
  by_cases h2:x.cost < z
  ·rw[if_pos (.inr h2)]
   exact sm 31 [po (hc),pa,pa,pk (Ak 3 x.cost z)]
  ·rw[if_neg (by simp[h2])]
   exact sm 31 [po (hc),pa,pa,pk (Ai 3 x.cost z)]
theorem LH {L:List Nd}(f:Bool)(z:Int)(n:Nat)(hn:L.length=n)(i:Nat)(hD:Dn L (L.length - 1))(hi:i < L.length)(hl:L.length≤1000000):SpM Tryz.prog I 162 [(0,some (nbx c L n))] [.ag [.sl 0,.o f,.i z],ci (i:Int)] [(0,some (nbx c L n))] (tit (lnI (Ba L i).length)) :=
 Lp (args:=[.ag [.sl 0,.o f,.i z],ci (i:Int)]) (Aap L f z i (fun j h0 hj=>hD j h0 (by omega)) hi hl) (by rw[List.length_map];exact hn.symm) EH rfl (ZV (by rw[List.length_map])) rfl
theorem GY {L:List Nd}(f:Bool)(z:Int)(n:Nat)(hn:L.length=n)(i:Nat)(x y:Int)(hD:Dn L (L.length - 1))(hi:i < L.length):SpM Tryz.prog I 160 [(0,some (nbx c L n))] [.ag [.sl 0,.o f,.i z],ci (i:Int),ci x,ci y] [(0,some (nbx c L n))] (lb (Ev L i x y)) :=
 Lp (args:=[.ag [.sl 0,.o f,.i z],ci (i:Int),ci x,ci y]) (NC L f z i x y (fun j h0 hj=>hD j h0 (by omega)) hi) (by rw[List.length_map];exact hn.symm) EH rfl GM rfl
theorem V1 (L : List Nd) (f : Bool) (z : Int) (n : Nat) (hn : L.length = n) (hl : n ≤ 2000) (hD : Dn L (L.length - 1)) (x : Ch) (h : spE L x ≠ 0) : SpM Tryz.prog I 123 [(0, some (tbx f z 1)), (1, some (nbx c L n))] [.one (.ptr 0 0), chT c' x] [(0, some (tbx f z 1)), (1, some (nbx c L n))] (li (spE L x)) := by
 unfold spE at h ⊢;by_cases h1:x.node < 0
 ·rw[if_pos (.inl h1)]
  exact sm 121 [pk (Ak 3 x.node 0)]
 ·by_cases h2 : (L.length : Int) ≤ x.node
  ·rw[if_pos (.inr (.inl h2))]
   exact sm 121 [pk (Ai 3 x.node 0),pk (Bn 3 x.node (n:Nat))]
  ·by_cases h3 : x.fst < 0
   ·rw[if_pos (.inr (.inr (.inl h3)))]
    exact sm 121 [pk (Ai 3 x.node 0),pk (Bd 3 x.node (n:Nat)),pk (Ak 3 x.fst 0)]
   ·by_cases h4 : x.nxt < 0
    ·rw[if_pos (.inr (.inr (.inr (.inl h4))))]
     exact sm 121 [pk (Ai 3 x.node 0),pk (Bd 3 x.node (n:Nat)),pk (Ai 3 x.fst 0),pk (Ak 3 x.nxt 0)]
    ·by_cases h5 : x.fst = x.nxt
     ·rw[if_pos (.inr (.inr (.inr (.inr h5))))]
      exact sm 121 [pk (Ai 3 x.node 0),pk (Bd 3 x.node (n:Nat)),pk (Ai 3 x.fst 0),pk (Ai 3 x.nxt 0),pk (Ar 3 x.fst x.nxt)]
     ·rw [if_neg (by omega)] at h ⊢
      obtain ⟨i,hni⟩ : ∃ i:Nat,x.node=(i:Int):=⟨x.node.toNat,by omega⟩
      have hi:i < L.length:=by omega
      have ht:x.node.toNat=i:=by omega
      rw[ht] at h ⊢;by_cases h6:(tat L i).st=0
      ·rw[if_neg (by simp[h6])] at h ⊢
       have hpa:=LH (I:=I) (c:=c) f z n hn i hD hi (by omega)
       have hde:=GY (I:=I) (c:=c) f z n hn i x.fst x.nxt hD hi;rw[←hni] at hpa hde;generalize (Ba L i).length=k at *;by_cases h7:2000 < L.length+2
       ·rw[if_pos (.inl h7)]
        exact sm 121 [pk (Ai 3 x.node 0),pk (Bd 3 x.node (n:Nat)),pk (Ai 3 x.fst 0),pk (Ai 3 x.nxt 0),pk (Ag 3 x.fst x.nxt),⟨.ix x.node i n,⟨by omega,by omega⟩⟩,⟨.part (Aa ((L).map (Ac c))) (i*9+8) 1 [.i ((tat L i).st)],(BH (c:=c) (fo:=8) (n:=1) hi rfl)⟩,pk (D3 3 ((tat L i).st) 0 false (decide_eq_true h6)),pk (Ay 3 (n:Nat) 2 ⟨by omega,by omega⟩),pk (BY 3 ((n:Nat)+2) 2000)]
       ·by_cases h8:32≤k
        ·rw[if_pos (.inr h8)]
         exact sm 121 [pk (Ai 3 x.node 0),pk (Bd 3 x.node (n:Nat)),pk (Ai 3 x.fst 0),pk (Ai 3 x.nxt 0),pk (Ag 3 x.fst x.nxt),⟨.ix x.node i n,⟨by omega,by omega⟩⟩,⟨.part (Aa ((L).map (Ac c))) (i*9+8) 1 [.i ((tat L i).st)],(BH (c:=c) (fo:=8) (n:=1) hi rfl)⟩,pk (D3 3 ((tat L i).st) 0 false (decide_eq_true h6)),pk (Ay 3 (n:Nat) 2 ⟨by omega,by omega⟩),pk (Au 3 ((n:Nat)+2) 2000),pom [1] (hpa),pk (Th 110 101 3 k (by kernel_rfl)),pk (Bn 3 (k:Int) 32)]
        ·rw[if_neg (by omega)] at h ⊢
         cases h9:Ev L i x.fst x.nxt with
         | false=>rw[h9] at h;exact absurd rfl h
         | true =>
          rw[h9] at hde;exact sm 121 [pk (Ai 3 x.node 0),pk (Bd 3 x.node (n:Nat)),pk (Ai 3 x.fst 0),pk (Ai 3 x.nxt 0),pk (Ag 3 x.fst x.nxt),⟨.ix x.node i n,⟨by omega,by omega⟩⟩,⟨.part (Aa ((L).map (Ac c))) (i*9+8) 1 [.i ((tat L i).st)],(BH (c:=c) (fo:=8) (n:=1) hi rfl)⟩,pk (D3 3 ((tat L i).st) 0 false (decide_eq_true h6)),pk (Ay 3 (n:Nat) 2 ⟨by omega,by omega⟩),pk (Au 3 ((n:Nat)+2) 2000),pom [1] (hpa),pk (Th 110 101 3 k (by kernel_rfl)),pk (Bd 3 (k:Int) 32),pom [1] (hde)]
      ·rw[if_pos h6]
       exact sm 121 [pk (Ai 3 x.node 0),pk (Bd 3 x.node (n:Nat)),pk (Ai 3 x.fst 0),pk (Ai 3 x.nxt 0),pk (Ag 3 x.fst x.nxt),⟨.ix x.node i n,⟨by omega,by omega⟩⟩,⟨.part (Aa ((L).map (Ac c))) (i*9+8) 1 [.i ((tat L i).st)],(BH (c:=c) (fo:=8) (n:=1) hi rfl)⟩,pk (D3 3 ((tat L i).st) 0 true (decide_eq_false h6))]
theorem Pz (M:List Nd)(f:Bool)(z:Int)(n:Nat)(hn:M.length=n)(hl:n≤2000)(x:Ch)(i:Nat)(hni:x.node=(i:Int))(hi:i < M.length):Rnd Tryz.prog I 121 (AK Tryz.prog 123 0) ⟨[(0,.p 0 0),(3,.p 3 0),(86,.s 85),(87,.i 2),(88,.i 0)],[(1,some ⟨103,some (9,n),Aa ((M).map (Ac c))⟩),(0,some ⟨46,none,[.sl 1,.o f,.i z]⟩),(3,some ⟨28,none,[.i x.kind,.i x.node,.b (.it (fF c' 12 x.q)),.i x.fst,.i x.nxt,.i x.cost]⟩),(85,some ⟨4,some (1,2),[.o true,.o false]⟩)],100⟩ .normal ⟨[(0,.p 0 0),(3,.p 3 0),(86,.s 85),(87,.i 2),(88,.i 1)],[(90,some ⟨103,some (9,n+1),Aa ((M++[(⟨x.node,x.fst,x.nxt,true,(tat M i).q,0⟩:Nd)]).map (Ac c))⟩),(0,some ⟨46,none,[.sl 90,.o f,.i z]⟩),(3,some ⟨28,none,[.i x.kind,.i x.node,.b (.it (fF c' 12 x.q)),.i x.fst,.i x.nxt,.i x.cost]⟩),(85,some ⟨4,some (1,2),[.o true,.o false]⟩)],100⟩ :=
 Rnd.nam [(90,129)] (show Rnd _ _ _ _ _ _ ⟨[(0,.p 0 0),(3,.p 3 0),(86,.s 85),(87,.i 2),(88,.i 1)],[(129,some ⟨103,some (9,n+1),(Aa ((M).map (Ac c)))++([.i x.node,.i x.fst,.i x.nxt,.o true,.b (.it (fF c 12 ((tat M i).q))),.i 0])⟩),(0,some ⟨46,none,[.sl 129,.o f,.i z]⟩),(3,some ⟨28,none,[.i x.kind,.i x.node,.b (.it (fF c' 12 x.q)),.i x.fst,.i x.nxt,.i x.cost]⟩),(85,some ⟨4,some (1,2),[.o true,.o false]⟩)],135⟩ from rr [pa,⟨.ix 0 0 2,⟨rfl,by omega⟩⟩,⟨.ix x.node i n,⟨by omega,by omega⟩⟩,⟨.part (Aa ((M).map (Ac c))) (i*9+4) 4 [.b (.it (fF c 12 (tat M i).q))],(BH (c:=c) (fo:=4) (n:=4) hi rfl)⟩,po (Qk (I:=I) (c:=c) (c':=c) (p:=(tat M i).q)),⟨.ap n 1 104,⟨by omega,by simp[maxLen];omega⟩⟩,pa]) (t:=⟨[(0,.p 0 0),(3,.p 3 0),(86,.s 85),(87,.i 2),(88,.i 1)],[(90,some ⟨103,some (9,n+1),Aa ((M++[(⟨x.node,x.fst,x.nxt,true,(tat M i).q,0⟩:Nd)]).map (Ac c))⟩),(0,some ⟨46,none,[.sl 90,.o f,.i z]⟩),(3,some ⟨28,none,[.i x.kind,.i x.node,.b (.it (fF c' 12 x.q)),.i x.fst,.i x.nxt,.i x.cost]⟩),(85,some ⟨4,some (1,2),[.o true,.o false]⟩)],100⟩) ⟨rfl,TVle.refl,rfl,TVle.refl,rfl,TVle.refl,rfl,TVle.refl,rfl,TVle.refl,trivial⟩ ⟨rfl,rfl,rfl,ILe.eq (show (Aa ((M).map (Ac c)))++([.i x.node,.i x.fst,.i x.nxt,.o true,.b (.it (fF c 12 ((tat M i).q))),.i 0])=Aa ((M++[(⟨x.node,x.fst,x.nxt,true,(tat M i).q,0⟩:Nd)]).map (Ac c)) from by simp[Aa]),rfl,rfl,rfl,ILe.refl,rfl,rfl,rfl,ILe.refl,rfl,rfl,rfl,ILe.refl,trivial⟩
theorem Py (M:List Nd)(f:Bool)(z:Int)(n:Nat)(hn:M.length=n)(hl:n≤2001)(x:Ch)(i:Nat)(hni:x.node=(i:Int))(hi:i < M.length):Rnd Tryz.prog I 121 (AK Tryz.prog 123 0) ⟨[(0,.p 0 0),(3,.p 3 0),(86,.s 85),(87,.i 2),(88,.i 1)],[(90,some ⟨103,some (9,n),Aa ((M).map (Ac c))⟩),(0,some ⟨46,none,[.sl 90,.o f,.i z]⟩),(3,some ⟨28,none,[.i x.kind,.i x.node,.b (.it (fF c' 12 x.q)),.i x.fst,.i x.nxt,.i x.cost]⟩),(85,some ⟨4,some (1,2),[.o true,.o false]⟩)],100⟩ .normal ⟨[(0,.p 0 0),(3,.p 3 0),(86,.s 85),(87,.i 2),(88,.i 2)],[(90,some ⟨103,some (9,n+1),Aa ((M++[(⟨x.node,x.fst,x.nxt,false,(tat M i).q,0⟩:Nd)]).map (Ac c))⟩),(0,some ⟨46,none,[.sl 90,.o f,.i z]⟩),(3,some ⟨28,none,[.i x.kind,.i x.node,.b (.it (fF c' 12 x.q)),.i x.fst,.i x.nxt,.i x.cost]⟩),(85,some ⟨4,some (1,2),[.o true,.o false]⟩)],100⟩ :=
 Rnd.nam [(90,129)] (show Rnd _ _ _ _ _ _ ⟨[(0,.p 0 0),(3,.p 3 0),(86,.s 85),(87,.i 2),(88,.i 2)],[(129,some ⟨103,some (9,n+1),(Aa ((M).map (Ac c)))++([.i x.node,.i x.fst,.i x.nxt,.o false,.b (.it (fF c 12 ((tat M i).q))),.i 0])⟩),(0,some ⟨46,none,[.sl 129,.o f,.i z]⟩),(3,some ⟨28,none,[.i x.kind,.i x.node,.b (.it (fF c' 12 x.q)),.i x.fst,.i x.nxt,.i x.cost]⟩),(85,some ⟨4,some (1,2),[.o true,.o false]⟩)],135⟩ from rr [pa,⟨.ix 1 1 2,⟨rfl,by omega⟩⟩,⟨.ix x.node i n,⟨by omega,by omega⟩⟩,⟨.part (Aa ((M).map (Ac c))) (i*9+4) 4 [.b (.it (fF c 12 (tat M i).q))],(BH (c:=c) (fo:=4) (n:=4) hi rfl)⟩,po (Qk (I:=I) (c:=c) (c':=c) (p:=(tat M i).q)),⟨.ap n 1 104,⟨by omega,by simp[maxLen];omega⟩⟩,pa]) (t:=⟨[(0,.p 0 0),(3,.p 3 0),(86,.s 85),(87,.i 2),(88,.i 2)],[(90,some ⟨103,some (9,n+1),Aa ((M++[(⟨x.node,x.fst,x.nxt,false,(tat M i).q,0⟩:Nd)]).map (Ac c))⟩),(0,some ⟨46,none,[.sl 90,.o f,.i z]⟩),(3,some ⟨28,none,[.i x.kind,.i x.node,.b (.it (fF c' 12 x.q)),.i x.fst,.i x.nxt,.i x.cost]⟩),(85,some ⟨4,some (1,2),[.o true,.o false]⟩)],100⟩) ⟨rfl,TVle.refl,rfl,TVle.refl,rfl,TVle.refl,rfl,TVle.refl,rfl,TVle.refl,trivial⟩ ⟨rfl,rfl,rfl,ILe.eq (show (Aa ((M).map (Ac c)))++([.i x.node,.i x.fst,.i x.nxt,.o false,.b (.it (fF c 12 ((tat M i).q))),.i 0])=Aa ((M++[(⟨x.node,x.fst,x.nxt,false,(tat M i).q,0⟩:Nd)]).map (Ac c)) from by simp[Aa]),rfl,rfl,rfl,ILe.refl,rfl,rfl,rfl,ILe.refl,rfl,rfl,rfl,ILe.refl,trivial⟩
end
section
variable {I:WInv}{c c':Bool}
def Adr (c c':Bool)(L:List Nd)(f:Bool)(z:Int)(n:Nat)(x:Ch)(i:Nat):Nat→Go.Proofs.YtdgbealknnmkoaaGreatDoor.St
 | 0=>⟨[(0,.p 0 0),(3,.p 3 0),(86,.s 85),(87,.i 2),(88,.i 0)],[(1,some ⟨103,some (9,n),Aa (((Bk L i)).map (Ac c))⟩),(0,some ⟨46,none,[.sl 1,.o f,.i z]⟩),(3,some ⟨28,none,[.i x.kind,.i x.node,.b (.it (fF c' 12 x.q)),.i x.fst,.i x.nxt,.i x.cost]⟩),(85,some ⟨4,some (1,2),[.o true,.o false]⟩)],100⟩
 | 1=>⟨[(0,.p 0 0),(3,.p 3 0),(86,.s 85),(87,.i 2),(88,.i 1)],[(90,some ⟨103,some (9,n+1),Aa ((((Bk L i)++[(⟨x.node,x.fst,x.nxt,true,(tat (Bk L i) i).q,0⟩:Nd)])).map (Ac c))⟩),(0,some ⟨46,none,[.sl 90,.o f,.i z]⟩),(3,some ⟨28,none,[.i x.kind,.i x.node,.b (.it (fF c' 12 x.q)),.i x.fst,.i x.nxt,.i x.cost]⟩),(85,some ⟨4,some (1,2),[.o true,.o false]⟩)],100⟩
 | _=>⟨[(0,.p 0 0),(3,.p 3 0),(86,.s 85),(87,.i 2),(88,.i 2)],[(90,some ⟨103,some (9,n+1+1),Aa (((((Bk L i)++[(⟨x.node,x.fst,x.nxt,true,(tat (Bk L i) i).q,0⟩:Nd)])++[(⟨x.node,x.fst,x.nxt,false,(tat ((Bk L i)++[(⟨x.node,x.fst,x.nxt,true,(tat (Bk L i) i).q,0⟩:Nd)]) i).q,0⟩:Nd)])).map (Ac c))⟩),(0,some ⟨46,none,[.sl 90,.o f,.i z]⟩),(3,some ⟨28,none,[.i x.kind,.i x.node,.b (.it (fF c' 12 x.q)),.i x.fst,.i x.nxt,.i x.cost]⟩),(85,some ⟨4,some (1,2),[.o true,.o false]⟩)],100⟩
theorem EO (L:List Nd)(i:Nat):(Bk L i).length=L.length:=List.length_set
theorem R5 {L:List Nd}{i:Nat}(h:i < L.length)(j:Nat):(tat (Bk L i) j).q=(tat L j).q:=by
 unfold Bk;rw[Pu h];split
 ·rename_i e;rw[e]
 ·rfl
theorem Acc {L:List Nd}{x:Ch}{i:Nat}(ht:x.node.toNat=i)(hi:i < L.length):(((Bk L i)++[(⟨x.node,x.fst,x.nxt,true,(tat (Bk L i) i).q,0⟩:Nd)])++[(⟨x.node,x.fst,x.nxt,false,(tat ((Bk L i)++[(⟨x.node,x.fst,x.nxt,true,(tat (Bk L i) i).q,0⟩:Nd)]) i).q,0⟩:Nd)])=spL L x:=by
 unfold spL kid;rw[ht,QJ (by rw[EO];exact hi),R5 hi,List.append_assoc];rfl
theorem Xx (L : List Nd) (f : Bool) (z : Int) (n : Nat) (hn : L.length = n) (hl : n ≤ 2000) (hD : Dn L (L.length - 1)) (x : Ch) (h : spE L x = 0) : SpM Tryz.prog I 123 [(0, some (tbx f z 1)), (1, some (nbx c L n))] [.one (.ptr 0 0), chT c' x] [(0, some (tbx f z 2)), (2, some (nbx c (spL L x) (n + 2)))] (li 0) := by
 unfold spE at h;by_cases h0:x.node < 0∨(L.length:Int)≤x.node∨x.fst < 0∨x.nxt < 0∨x.fst=x.nxt
 ·rw[if_pos h0] at h;omega
 ·rw [if_neg h0] at h
  obtain ⟨i,hni⟩ : ∃ i:Nat,x.node=(i:Int):=⟨x.node.toNat,by omega⟩
  have hi:i < L.length:=by omega
  have ht:x.node.toNat=i:=by omega
  rw[←Acc ht hi];rw[ht] at h;by_cases h6:(tat L i).st=0
  ·rw[if_neg (by simp[h6])] at h
   have hpa:=LH (I:=I) (c:=c) f z n hn i hD hi (by omega)
   have hde:=GY (I:=I) (c:=c) f z n hn i x.fst x.nxt hD hi;rw[←hni] at hpa hde;generalize (Ba L i).length=k at *;by_cases h7:2000 < L.length+2∨32≤k
   ·rw[if_pos h7] at h;omega
   ·rw[if_neg h7] at h
    cases h9:Ev L i x.fst x.nxt with
    | true=>rw[h9,if_pos rfl] at h;omega
    | false =>
     rw[h9] at hde;have lo:LoopTr Tryz.prog I 121 (AK Tryz.prog 123 0) (Adr c c' L f z n x i 0) (.exit 1) ⟨[],[(90,some ⟨103,some (9,n+1+1),Aa (((((Bk L i)++[(⟨x.node,x.fst,x.nxt,true,(tat (Bk L i) i).q,0⟩:Nd)])++[(⟨x.node,x.fst,x.nxt,false,(tat ((Bk L i)++[(⟨x.node,x.fst,x.nxt,true,(tat (Bk L i) i).q,0⟩:Nd)]) i).q,0⟩:Nd)])).map (Ac c))⟩),(0,some ⟨46,none,[.sl 90,.o f,.i z]⟩)],100⟩:=Bq (by simp) (Adr c c' L f z n x i) 2 (fun j hj=>by
      have hm:=EO L i;obtain rfl | rfl:j=0∨j=1:=by omega
      ·exact Pz (Bk L i) f z n (by omega) hl x i hni (by omega)
      ·exact Py _ f z (n+1) (by rw[List.length_append,hm,hn];rfl) (by omega) x i hni (by rw[List.length_append];omega)) (by
      exact Rnd.nam [] (show Rnd _ _ _ _ _ _ ⟨[],[(90,some ⟨103,some (9,n+1+1),Aa (((((Bk L i)++[(⟨x.node,x.fst,x.nxt,true,(tat (Bk L i) i).q,0⟩:Nd)])++[(⟨x.node,x.fst,x.nxt,false,(tat ((Bk L i)++[(⟨x.node,x.fst,x.nxt,true,(tat (Bk L i) i).q,0⟩:Nd)]) i).q,0⟩:Nd)])).map (Ac c))⟩),(0,some ⟨46,none,[.sl 90,.o f,.i z]⟩)],101⟩ from rr [pa]) (t:=⟨[],[(90,some ⟨103,some (9,n+1+1),Aa (((((Bk L i)++[(⟨x.node,x.fst,x.nxt,true,(tat (Bk L i) i).q,0⟩:Nd)])++[(⟨x.node,x.fst,x.nxt,false,(tat ((Bk L i)++[(⟨x.node,x.fst,x.nxt,true,(tat (Bk L i) i).q,0⟩:Nd)]) i).q,0⟩:Nd)])).map (Ac c))⟩),(0,some ⟨46,none,[.sl 90,.o f,.i z]⟩)],100⟩) trivial ⟨rfl,rfl,rfl,ILe.refl,rfl,rfl,rfl,ILe.refl,trivial⟩)
     exact sm 121 [pk (Ai 3 x.node 0),pk (Bd 3 x.node (n:Nat)),pk (Ai 3 x.fst 0),pk (Ai 3 x.nxt 0),pk (Ag 3 x.fst x.nxt),⟨.ix x.node i n,⟨by omega,by omega⟩⟩,⟨.part (Aa ((L).map (Ac c))) (i*9+8) 1 [.i ((tat L i).st)],(BH (c:=c) (fo:=8) (n:=1) hi rfl)⟩,pk (D3 3 ((tat L i).st) 0 false (decide_eq_true h6)),pk (Ay 3 (n:Nat) 2 ⟨by omega,by omega⟩),pk (Au 3 ((n:Nat)+2) 2000),pom [1] (hpa),pk (Th 110 101 3 k (by kernel_rfl)),pk (Bd 3 (k:Int) 32),pom [1] (hde),⟨.ix x.node i n,⟨by omega,by omega⟩⟩,⟨.upd (Aa ((L).map (Ac c))) (i*9+8) [.i 1] (Aa (((L).set i ⟨(tat L i).par,(tat L i).fst,(tat L i).nxt,(tat L i).tog,(tat L i).q,1⟩).map (Ac c))),(Jp (c:=c) (fo:=8) hi ⟨(tat L i).par,(tat L i).fst,(tat L i).nxt,(tat L i).tog,(tat L i).q,1⟩ rfl)⟩,pl (lo),pm ((show Leads I _ ⟨[],[(90,some ⟨103,some (9,n+1+1),Aa (((((Bk L i)++[(⟨x.node,x.fst,x.nxt,true,(tat (Bk L i) i).q,0⟩:Nd)])++[(⟨x.node,x.fst,x.nxt,false,(tat ((Bk L i)++[(⟨x.node,x.fst,x.nxt,true,(tat (Bk L i) i).q,0⟩:Nd)]) i).q,0⟩:Nd)])).map (Ac c))⟩),(0,some ⟨46,none,[.sl 90,.o f,.i z]⟩)],100⟩ ⟨[],[(2,some ⟨103,some (9,n+1+1),Aa (((((Bk L i)++[(⟨x.node,x.fst,x.nxt,true,(tat (Bk L i) i).q,0⟩:Nd)])++[(⟨x.node,x.fst,x.nxt,false,(tat ((Bk L i)++[(⟨x.node,x.fst,x.nxt,true,(tat (Bk L i) i).q,0⟩:Nd)]) i).q,0⟩:Nd)])).map (Ac c))⟩),(0,some ⟨46,none,[.sl 2,.o f,.i z]⟩)],100⟩ from AL [(2,90)] trivial ⟨rfl,rfl,rfl,ILe.refl,rfl,rfl,rfl,ILe.refl,trivial⟩))]
  ·rw[if_pos h6] at h;omega
end
def clN (f:Bool)(z:Int)(x:Nd):Nd:=if x.st=0∧DH f z x.q=true then ⟨x.par,x.fst,x.nxt,x.tog,x.q,2⟩ else x
def clL (L:List Nd)(f:Bool)(z:Int):List Nd:=L.map (clN f z)
def clP (L:List Nd)(f:Bool)(z:Int):Nat→List Nd
 | 0=>L
 | i+1=>if (tat (clP L f z i) i).st=0∧DH f z (tat (clP L f z i) i).q=true then (clP L f z i).set i ⟨(tat (clP L f z i) i).par,(tat (clP L f z i) i).fst,(tat (clP L f z i) i).nxt,(tat (clP L f z i) i).tog,(tat (clP L f z i) i).q,2⟩ else clP L f z i
theorem Gp (L:List Nd)(f:Bool)(z:Int) : ∀ i,(clP L f z i).length=L.length
 | 0=>rfl
 | i+1=>by
  rw[clP];split
  ·rw[List.length_set,Gp L f z i]
  ·exact Gp L f z i
theorem Qv (L : List Nd) (f : Bool) (z : Int) : ∀ i, i ≤ L.length → ∀ j, (clP L f z i)[j]? = if j < i then (L[j]?).map (clN f z) else L[j]?
 | 0,_,j=>by rw[if_neg (by omega)];rfl
 | i+1,hi,j=>by
  have ih:=Qv L f z i (by omega)
  have hl:=Gp L f z i;have e:tat (clP L f z i) i=tat L i:=by unfold tat;rw[List.getD_eq_getElem?_getD,List.getD_eq_getElem?_getD,ih,if_neg (by omega)]
  have hg:L[i]? = some (tat L i):=Dm (by omega)
  rw[clP,e];by_cases hc:(tat L i).st=0∧DH f z (tat L i).q=true
  ·rw[if_pos hc,List.getElem?_set]
   by_cases hij:i=j
   ·subst hij
    rw[if_pos rfl,if_pos (by omega),if_pos (by omega),hg]
    show some _=some (clN f z (tat L i));unfold clN;rw[if_pos hc]
   ·rw[if_neg hij,ih]
    by_cases h:j < i
    ·rw[if_pos h,if_pos (by omega)]
    ·rw[if_neg h,if_neg (by omega)]
  ·rw[if_neg hc,ih]
   by_cases h:j < i
   ·rw[if_pos h,if_pos (by omega)]
   ·rw[if_neg h]
    by_cases hij:j=i
    ·subst hij
     rw[if_pos (by omega),hg]
     show some _=some (clN f z (tat L j));unfold clN;rw[if_neg hc]
    ·rw[if_neg (by omega)]
theorem Abb (L:List Nd)(f:Bool)(z:Int):clP L f z L.length=clL L f z:=by
 apply List.ext_getElem?;intro j;unfold clL;rw[Qv L f z _ (Nat.le_refl _),List.getElem?_map];by_cases h:j < L.length
 ·rw[if_pos h]
 ·rw[if_neg h,List.getElem?_eq_none (by omega)];rfl
theorem Zq {L:List Nd}{n:Nat}(f:Bool)(z:Int)(hn:L.length=n):clP L f z n=clL L f z:=by rw[←hn,Abb]
section
variable {I:WInv}{c c':Bool}
theorem DF {L:List Nd}(f:Bool)(z:Int)(n:Nat)(hn:L.length=n)(y:Nd)(r:Bool)(hr:DH f z y.q=r):SpM Tryz.prog I 121 [(0,some (nbx c L n))] [.ag [.sl 0,.o f,.i z],ndT c y] [(0,some (nbx c L n))] (lb r) :=
 Lp (args:=[.ag [.sl 0,.o f,.i z],ndT c y]) (by rw[←hr];exact Js L f z c y) (by rw[List.length_map];exact hn.symm) EH rfl GM rfl
def Sv (k:Nat)(c:Bool)(M:List Nd)(n:Nat)(f:Bool)(z:Int)(i:Int):Go.Proofs.YtdgbealknnmkoaaGreatDoor.St:=⟨[(0,.p 0 0),(31,.s k),(32,.i (n:Int)),(33,.i i)],[(k,some ⟨103,some (9,n),Aa ((M).map (Ac c))⟩),(0,some ⟨46,none,[.sl k,.o f,.i z]⟩)],50⟩
def AbL (k:Nat)(c:Bool)(M:List Nd)(n:Nat)(f:Bool)(z:Int):Go.Proofs.YtdgbealknnmkoaaGreatDoor.St:=⟨[],[(k,some ⟨103,some (9,n),Aa ((M).map (Ac c))⟩),(0,some ⟨46,none,[.sl k,.o f,.i z]⟩)],50⟩
theorem Oh (M:List Nd)(f:Bool)(z:Int)(n:Nat)(hn:M.length=n)(hl:n≤2002)(i:Nat)(hi:i < M.length):Rnd Tryz.prog I 56 (AK Tryz.prog 81 0) (Sv 1 c M n f z (i:Int)) .normal (Sv 1 c (if (tat M i).st=0∧DH f z (tat M i).q=true then M.set i ⟨(tat M i).par,(tat M i).fst,(tat M i).nxt,(tat M i).tog,(tat M i).q,2⟩ else M) n f z ((i+1:Nat):Int)):=by
 by_cases h1:(tat M i).st=0
 ·cases h2:DH f z (tat M i).q with
  | true =>
   have hset:=DF (I:=I) (c:=c) f z n hn (tat M i) true h2;rw[if_pos ⟨h1,rfl⟩];exact Rnd.nam [] (show Rnd _ _ _ _ _ _ ⟨[(0,.p 0 0),(31,.s 1),(32,.i (n:Int)),(33,.i ((i+1:Nat):Int))],[(1,some ⟨103,some (9,n),Aa (((M).set i ⟨(tat M i).par,(tat M i).fst,(tat M i).nxt,(tat M i).tog,(tat M i).q,2⟩).map (Ac c))⟩),(0,some ⟨46,none,[.sl 1,.o f,.i z]⟩)],77⟩ from rr [pk (Ak 3 (i:Int) (n:Int)),⟨.ix (i:Int) i n,⟨by omega,by omega⟩⟩,⟨.part (Aa ((M).map (Ac c))) (i*9) 9 [.i ((tat M i).par),.i ((tat M i).fst),.i ((tat M i).nxt),.o ((tat M i).tog),.b (.it (fF c 12 (tat M i).q)),.i ((tat M i).st)],(BH (c:=c) (fo:=0) (n:=9) hi rfl)⟩,pk (AO 3 ((tat M i).st) 0 true (decide_eq_true h1)),pom [1] (hset),⟨.ix (i:Int) i n,⟨by omega,by omega⟩⟩,⟨.upd (Aa ((M).map (Ac c))) (i*9+8) [.i 2] (Aa (((M).set i ⟨(tat M i).par,(tat M i).fst,(tat M i).nxt,(tat M i).tog,(tat M i).q,2⟩).map (Ac c))),(Jp (c:=c) (fo:=8) hi ⟨(tat M i).par,(tat M i).fst,(tat M i).nxt,(tat M i).tog,(tat M i).q,2⟩ rfl)⟩,pk (Ay 3 (i:Int) 1 ⟨by omega,by omega⟩)]) (t:=⟨[(0,.p 0 0),(31,.s 1),(32,.i (n:Int)),(33,.i ((i+1:Nat):Int))],[(1,some ⟨103,some (9,n),Aa (((M).set i ⟨(tat M i).par,(tat M i).fst,(tat M i).nxt,(tat M i).tog,(tat M i).q,2⟩).map (Ac c))⟩),(0,some ⟨46,none,[.sl 1,.o f,.i z]⟩)],50⟩) ⟨rfl,TVle.refl,rfl,TVle.refl,rfl,TVle.refl,rfl,TVle.refl,trivial⟩ ⟨rfl,rfl,rfl,ILe.refl,rfl,rfl,rfl,ILe.refl,trivial⟩
  | false =>
   have hset:=DF (I:=I) (c:=c) f z n hn (tat M i) false h2;rw[if_neg (fun h=>by cases h.2)]
   exact Rnd.nam [] (show Rnd _ _ _ _ _ _ ⟨[(0,.p 0 0),(31,.s 1),(32,.i (n:Int)),(33,.i ((i+1:Nat):Int))],[(1,some ⟨103,some (9,n),Aa ((M).map (Ac c))⟩),(0,some ⟨46,none,[.sl 1,.o f,.i z]⟩)],69⟩ from rr [pk (Ak 3 (i:Int) (n:Int)),⟨.ix (i:Int) i n,⟨by omega,by omega⟩⟩,⟨.part (Aa ((M).map (Ac c))) (i*9) 9 [.i ((tat M i).par),.i ((tat M i).fst),.i ((tat M i).nxt),.o ((tat M i).tog),.b (.it (fF c 12 (tat M i).q)),.i ((tat M i).st)],(BH (c:=c) (fo:=0) (n:=9) hi rfl)⟩,pk (AO 3 ((tat M i).st) 0 true (decide_eq_true h1)),pom [1] (hset),pk (Ay 3 (i:Int) 1 ⟨by omega,by omega⟩)]) (t:=⟨[(0,.p 0 0),(31,.s 1),(32,.i (n:Int)),(33,.i ((i+1:Nat):Int))],[(1,some ⟨103,some (9,n),Aa ((M).map (Ac c))⟩),(0,some ⟨46,none,[.sl 1,.o f,.i z]⟩)],50⟩) ⟨rfl,TVle.refl,rfl,TVle.refl,rfl,TVle.refl,rfl,TVle.refl,trivial⟩ ⟨rfl,rfl,rfl,ILe.refl,rfl,rfl,rfl,ILe.refl,trivial⟩
 ·rw[if_neg (fun h=>h1 h.1)]
  exact Rnd.nam [] (show Rnd _ _ _ _ _ _ ⟨[(0,.p 0 0),(31,.s 1),(32,.i (n:Int)),(33,.i ((i+1:Nat):Int))],[(1,some ⟨103,some (9,n),Aa ((M).map (Ac c))⟩),(0,some ⟨46,none,[.sl 1,.o f,.i z]⟩)],69⟩ from rr [pk (Ak 3 (i:Int) (n:Int)),⟨.ix (i:Int) i n,⟨by omega,by omega⟩⟩,⟨.part (Aa ((M).map (Ac c))) (i*9) 9 [.i ((tat M i).par),.i ((tat M i).fst),.i ((tat M i).nxt),.o ((tat M i).tog),.b (.it (fF c 12 (tat M i).q)),.i ((tat M i).st)],(BH (c:=c) (fo:=0) (n:=9) hi rfl)⟩,pk (AO 3 ((tat M i).st) 0 false (decide_eq_false h1)),pk (Ay 3 (i:Int) 1 ⟨by omega,by omega⟩)]) (t:=⟨[(0,.p 0 0),(31,.s 1),(32,.i (n:Int)),(33,.i ((i+1:Nat):Int))],[(1,some ⟨103,some (9,n),Aa ((M).map (Ac c))⟩),(0,some ⟨46,none,[.sl 1,.o f,.i z]⟩)],50⟩) ⟨rfl,TVle.refl,rfl,TVle.refl,rfl,TVle.refl,rfl,TVle.refl,trivial⟩ ⟨rfl,rfl,rfl,ILe.refl,rfl,rfl,rfl,ILe.refl,trivial⟩
theorem K4 (L:List Nd)(f:Bool)(z:Int)(n:Nat)(hn:L.length=n)(hl:n≤2002):LoopTr Tryz.prog I 56 (AK Tryz.prog 81 0) (Sv 1 c L n f z ((0:Nat):Int)) (.exit 1) (AbL 1 c (clL L f z) n f z) :=
 Bq (by simp) (fun i=>Sv 1 c (clP L f z i) n f z (i:Int)) n (fun i hi=>by
  have hm:=Gp L f z i;have:=Oh (I:=I) (c:=c) (clP L f z i) f z n (by omega) hl i (by omega)
  exact this) (by
  rw[Zq f z hn];generalize clL L f z=M;exact Rnd.nam [] (show Rnd _ _ _ _ _ _ ⟨[],[(1,some ⟨103,some (9,n),Aa ((M).map (Ac c))⟩),(0,some ⟨46,none,[.sl 1,.o f,.i z]⟩)],51⟩ from rr [pk (Ai 3 (n:Int) (n:Int))]) (t:=⟨[],[(1,some ⟨103,some (9,n),Aa ((M).map (Ac c))⟩),(0,some ⟨46,none,[.sl 1,.o f,.i z]⟩)],50⟩) trivial ⟨rfl,rfl,rfl,ILe.refl,rfl,rfl,rfl,ILe.refl,trivial⟩)
end
section
variable {I:WInv}{c c':Bool}
theorem NJ (M:List Nd)(f:Bool)(z:Int)(n:Nat)(hn:M.length=n)(hl:n≤2002)(i:Nat)(hi:i < M.length):Rnd Tryz.prog I 56 (AK Tryz.prog 81 0) (Sv 14 c M n f z (i:Int)) .normal (Sv 14 c (if (tat M i).st=0∧DH f z (tat M i).q=true then M.set i ⟨(tat M i).par,(tat M i).fst,(tat M i).nxt,(tat M i).tog,(tat M i).q,2⟩ else M) n f z ((i+1:Nat):Int)):=by
 by_cases h1:(tat M i).st=0
 ·cases h2:DH f z (tat M i).q with
  | true =>
   have hset:=DF (I:=I) (c:=c) f z n hn (tat M i) true h2;rw[if_pos ⟨h1,rfl⟩];exact Rnd.nam [] (show Rnd _ _ _ _ _ _ ⟨[(0,.p 0 0),(31,.s 14),(32,.i (n:Int)),(33,.i ((i+1:Nat):Int))],[(14,some ⟨103,some (9,n),Aa (((M).set i ⟨(tat M i).par,(tat M i).fst,(tat M i).nxt,(tat M i).tog,(tat M i).q,2⟩).map (Ac c))⟩),(0,some ⟨46,none,[.sl 14,.o f,.i z]⟩)],77⟩ from rr [pk (Ak 3 (i:Int) (n:Int)),⟨.ix (i:Int) i n,⟨by omega,by omega⟩⟩,⟨.part (Aa ((M).map (Ac c))) (i*9) 9 [.i ((tat M i).par),.i ((tat M i).fst),.i ((tat M i).nxt),.o ((tat M i).tog),.b (.it (fF c 12 (tat M i).q)),.i ((tat M i).st)],(BH (c:=c) (fo:=0) (n:=9) hi rfl)⟩,pk (AO 3 ((tat M i).st) 0 true (decide_eq_true h1)),pom [14] (hset),⟨.ix (i:Int) i n,⟨by omega,by omega⟩⟩,⟨.upd (Aa ((M).map (Ac c))) (i*9+8) [.i 2] (Aa (((M).set i ⟨(tat M i).par,(tat M i).fst,(tat M i).nxt,(tat M i).tog,(tat M i).q,2⟩).map (Ac c))),(Jp (c:=c) (fo:=8) hi ⟨(tat M i).par,(tat M i).fst,(tat M i).nxt,(tat M i).tog,(tat M i).q,2⟩ rfl)⟩,pk (Ay 3 (i:Int) 1 ⟨by omega,by omega⟩)]) (t:=⟨[(0,.p 0 0),(31,.s 14),(32,.i (n:Int)),(33,.i ((i+1:Nat):Int))],[(14,some ⟨103,some (9,n),Aa (((M).set i ⟨(tat M i).par,(tat M i).fst,(tat M i).nxt,(tat M i).tog,(tat M i).q,2⟩).map (Ac c))⟩),(0,some ⟨46,none,[.sl 14,.o f,.i z]⟩)],50⟩) ⟨rfl,TVle.refl,rfl,TVle.refl,rfl,TVle.refl,rfl,TVle.refl,trivial⟩ ⟨rfl,rfl,rfl,ILe.refl,rfl,rfl,rfl,ILe.refl,trivial⟩
  | false =>
   have hset:=DF (I:=I) (c:=c) f z n hn (tat M i) false h2;rw[if_neg (fun h=>by cases h.2)]
   exact Rnd.nam [] (show Rnd _ _ _ _ _ _ ⟨[(0,.p 0 0),(31,.s 14),(32,.i (n:Int)),(33,.i ((i+1:Nat):Int))],[(14,some ⟨103,some (9,n),Aa ((M).map (Ac c))⟩),(0,some ⟨46,none,[.sl 14,.o f,.i z]⟩)],69⟩ from rr [pk (Ak 3 (i:Int) (n:Int)),⟨.ix (i:Int) i n,⟨by omega,by omega⟩⟩,⟨.part (Aa ((M).map (Ac c))) (i*9) 9 [.i ((tat M i).par),.i ((tat M i).fst),.i ((tat M i).nxt),.o ((tat M i).tog),.b (.it (fF c 12 (tat M i).q)),.i ((tat M i).st)],(BH (c:=c) (fo:=0) (n:=9) hi rfl)⟩,pk (AO 3 ((tat M i).st) 0 true (decide_eq_true h1)),pom [14] (hset),pk (Ay 3 (i:Int) 1 ⟨by omega,by omega⟩)]) (t:=⟨[(0,.p 0 0),(31,.s 14),(32,.i (n:Int)),(33,.i ((i+1:Nat):Int))],[(14,some ⟨103,some (9,n),Aa ((M).map (Ac c))⟩),(0,some ⟨46,none,[.sl 14,.o f,.i z]⟩)],50⟩) ⟨rfl,TVle.refl,rfl,TVle.refl,rfl,TVle.refl,rfl,TVle.refl,trivial⟩ ⟨rfl,rfl,rfl,ILe.refl,rfl,rfl,rfl,ILe.refl,trivial⟩
 ·rw[if_neg (fun h=>h1 h.1)]
  exact Rnd.nam [] (show Rnd _ _ _ _ _ _ ⟨[(0,.p 0 0),(31,.s 14),(32,.i (n:Int)),(33,.i ((i+1:Nat):Int))],[(14,some ⟨103,some (9,n),Aa ((M).map (Ac c))⟩),(0,some ⟨46,none,[.sl 14,.o f,.i z]⟩)],69⟩ from rr [pk (Ak 3 (i:Int) (n:Int)),⟨.ix (i:Int) i n,⟨by omega,by omega⟩⟩,⟨.part (Aa ((M).map (Ac c))) (i*9) 9 [.i ((tat M i).par),.i ((tat M i).fst),.i ((tat M i).nxt),.o ((tat M i).tog),.b (.it (fF c 12 (tat M i).q)),.i ((tat M i).st)],(BH (c:=c) (fo:=0) (n:=9) hi rfl)⟩,pk (AO 3 ((tat M i).st) 0 false (decide_eq_false h1)),pk (Ay 3 (i:Int) 1 ⟨by omega,by omega⟩)]) (t:=⟨[(0,.p 0 0),(31,.s 14),(32,.i (n:Int)),(33,.i ((i+1:Nat):Int))],[(14,some ⟨103,some (9,n),Aa ((M).map (Ac c))⟩),(0,some ⟨46,none,[.sl 14,.o f,.i z]⟩)],50⟩) ⟨rfl,TVle.refl,rfl,TVle.refl,rfl,TVle.refl,rfl,TVle.refl,trivial⟩ ⟨rfl,rfl,rfl,ILe.refl,rfl,rfl,rfl,ILe.refl,trivial⟩
theorem Oi (L:List Nd)(f:Bool)(z:Int)(n:Nat)(hn:L.length=n)(hl:n≤2002):LoopTr Tryz.prog I 56 (AK Tryz.prog 81 0) (Sv 14 c L n f z ((0:Nat):Int)) (.exit 1) (AbL 14 c (clL L f z) n f z) :=
 Bq (by simp) (fun i=>Sv 14 c (clP L f z i) n f z (i:Int)) n (fun i hi=>by
  have hm:=Gp L f z i;have:=NJ (I:=I) (c:=c) (clP L f z i) f z n (by omega) hl i (by omega)
  exact this) (by
  rw[Zq f z hn];generalize clL L f z=M;exact Rnd.nam [] (show Rnd _ _ _ _ _ _ ⟨[],[(14,some ⟨103,some (9,n),Aa ((M).map (Ac c))⟩),(0,some ⟨46,none,[.sl 14,.o f,.i z]⟩)],51⟩ from rr [pk (Ai 3 (n:Int) (n:Int))]) (t:=⟨[],[(14,some ⟨103,some (9,n),Aa ((M).map (Ac c))⟩),(0,some ⟨46,none,[.sl 14,.o f,.i z]⟩)],50⟩) trivial ⟨rfl,rfl,rfl,ILe.refl,rfl,rfl,rfl,ILe.refl,trivial⟩)
def chE (L:List Nd)(x:Ch):Int:=if x.kind=1 then raE L x else if x.kind=2 then spE L x else if x.kind=3 then fiE x else 5
def chM (L:List Nd)(f:Bool)(z:Int)(x:Ch):List Nd×Bool×Int:=if x.kind=1 then (raL L x,f,z) else if x.kind=2 then (spL L x,f,z) else (L,fnF f z x)
def chS (L:List Nd)(f:Bool)(z:Int)(x:Ch):List Nd×Bool×Int:=(clL (chM L f z x).1 (chM L f z x).2.1 (chM L f z x).2.2,(chM L f z x).2)
theorem NK (L:List Nd)(f:Bool)(z:Int)(n:Nat)(hn:L.length=n)(hl:n≤2000)(hD:Dn L (L.length - 1))(x:Ch)(h:chE L x≠0):SpM Tryz.prog I 81 [(0,some (tbx f z 1)),(1,some (nbx c L n))] [.one (.ptr 0 0),chT c' x] [(0,some (tbx f z 1)),(1,some (nbx c L n))] (li (chE L x)):=by
 unfold chE at h ⊢;by_cases k1:x.kind=1
 ·rw[if_pos k1] at h ⊢
  have hs:=VN (I:=I) (c:=c) (c':=c') L f z n hn x h;generalize raE L x=r at *;exact sm 56 [pk (Ar 3 x.kind 1),pom [0,1] (hs),pk (AI 32 r 0)]
 ·rw[if_neg k1] at h ⊢
  by_cases k2:x.kind=2
  ·rw[if_pos k2] at h ⊢
   have hs:=V1 (I:=I) (c:=c) (c':=c') L f z n hn hl hD x h;generalize spE L x=r at *;exact sm 56 [pk (Ag 3 x.kind 1),pk (Ar 3 x.kind 2),pom [0,1] (hs),pk (AI 32 r 0)]
  ·rw[if_neg k2] at h ⊢
   by_cases k3:x.kind=3
   ·rw[if_pos k3] at h ⊢
    have hs:=YA (I:=I) (c':=c') f z (nbx c L n) x h;generalize fiE x=r at *;exact sm 56 [pk (Ag 3 x.kind 1),pk (Ag 3 x.kind 2),pk (Ar 3 x.kind 3),pom [0,1] (hs),pk (AI 32 r 0)]
   ·rw[if_neg k3]
    exact sm 56 [pk (Ag 3 x.kind 1),pk (Ag 3 x.kind 2),pk (Ag 3 x.kind 3),pa]
theorem LE (L:List Nd)(f:Bool)(z:Int)(n:Nat)(hn:L.length=n)(hl:n≤2000)(x:Ch)(h:chE L x=0)(hk:x.kind≠2):SpM Tryz.prog I 81 [(0,some (tbx f z 1)),(1,some (nbx c L n))] [.one (.ptr 0 0),chT c' x] [(0,some (tbx (chS L f z x).2.1 (chS L f z x).2.2 1)),(1,some (nbx c (chS L f z x).1 n))] (li 0):=by
 unfold chE at h;unfold chS chM;by_cases k1:x.kind=1
 ·rw[if_pos k1] at h ⊢
  have hs:=XR (I:=I) (c:=c) (c':=c') L f z n hn x h;have hm:(raL L x).length=n:=by
   unfold raL;split
   ·rw[List.length_set,hn]
   ·exact hn
  have lo:=K4 (I:=I) (c:=c) (raL L x) f z n hm (by omega)
  dsimp only
  generalize clL (raL L x) f z=K at *;generalize raL L x=M at *;exact sm 56 [pk (Ar 3 x.kind 1),pom [0,1] (hs),pa,pl (lo)]
 ·rw[if_neg k1,if_neg hk] at h ⊢
  by_cases k3:x.kind=3
  ·rw[if_pos k3] at h
   have hs:=AaF (I:=I) (c':=c') f z (nbx c L n) x h;generalize fnF f z x=p at *;obtain ⟨f2,z2⟩:=p
   dsimp only at hs ⊢
   have lo:=K4 (I:=I) (c:=c) L f2 z2 n hn (by omega)
   generalize clL L f2 z2=K at *;exact sm 56 [pk (Ag 3 x.kind 1),pk (Ag 3 x.kind 2),pk (Ar 3 x.kind 3),pom [0,1] (hs),pa,pl (lo)]
  ·rw[if_neg k3] at h;omega
theorem K3 (L:List Nd)(f:Bool)(z:Int)(n:Nat)(hn:L.length=n)(hl:n≤2000)(hD:Dn L (L.length - 1))(x:Ch)(h:chE L x=0)(hk:x.kind=2):SpM Tryz.prog I 81 [(0,some (tbx f z 1)),(1,some (nbx c L n))] [.one (.ptr 0 0),chT c' x] [(0,some (tbx (chS L f z x).2.1 (chS L f z x).2.2 2)),(2,some (nbx c (chS L f z x).1 (n+2)))] (li 0):=by
 unfold chE at h;unfold chS chM;rw[if_neg (by omega),if_pos hk] at h ⊢
 have hs:=Xx (I:=I) (c:=c) (c':=c') L f z n hn hl hD x h;have hm:(spL L x).length=n+2:=by unfold spL;rw[List.length_append,EO,hn];rfl
 have lo:=Oi (I:=I) (c:=c) (spL L x) f z (n+2) hm (by omega)
 dsimp only
 generalize clL (spL L x) f z=K at *;generalize spL L x=M at *;exact sm 56 [pk (Ag 3 x.kind 1),pk (Ar 3 x.kind 2),pom [0,1] (hs),pa,pl (lo),pm ((show Leads I _ ⟨[],[(14,some ⟨103,some (9,n+2),Aa ((K).map (Ac c))⟩),(0,some ⟨46,none,[.sl 14,.o f,.i z]⟩)],50⟩ ⟨[],[(2,some ⟨103,some (9,n+2),Aa ((K).map (Ac c))⟩),(0,some ⟨46,none,[.sl 2,.o f,.i z]⟩)],50⟩ from AL [(2,14)] trivial ⟨rfl,rfl,rfl,ILe.refl,rfl,rfl,rfl,ILe.refl,trivial⟩))]
end
theorem KO {α:Type}(L:List Nd)(g:Nd→α):((List.range L.length).map fun j=>g (tat L j))=L.map g:=by
 apply List.ext_getElem?;intro j;rw[List.getElem?_map,List.getElem?_map];by_cases h:j < L.length
 ·rw[List.getElem?_range h,Dm h];rfl
 ·rw[List.getElem?_eq_none (by simpa using h),List.getElem?_eq_none (by omega)];rfl
def frR (c:Bool)(L:List Nd)(i:Nat):List (List It0):=(List.range L.length).map fun j=>Ac (decide (j < i)||c) (tat L j)
theorem RT (c:Bool)(L:List Nd):frR c L 0=L.map (Ac c):=by
 rw[←KO L (Ac c)];unfold frR;simp
theorem UC (c:Bool)(L:List Nd):frR c L L.length=L.map (Ac true):=by
 rw[←KO L (Ac true)];unfold frR;apply List.map_congr_left;intro j hj;rw[decide_eq_true (List.mem_range.1 hj)];rfl
theorem Mh {c:Bool}{L:List Nd}{i:Nat}(h:i < L.length):(frR c L i)[i]? = some (Ac c (tat L i)):=by
 unfold frR;rw[SR h];simp
theorem UB {c:Bool}{L:List Nd}{i:Nat}(h:i < L.length):(frR c L i).set i (Ac true (tat L i))=frR c L (i+1):=by
 have:=V9 (f:=fun j=>Ac (decide (j < i)||c) (tat L j)) (f':=fun j=>Ac (decide (j < i+1)||c) (tat L j)) (n:=L.length) (i:=i) fun x hx _=>by
  have:decide (x < i)=decide (x < i+1):=by
   by_cases hxi:x < i
   ·rw[decide_eq_true hxi,decide_eq_true (by omega)]
   ·rw[decide_eq_false hxi,decide_eq_false (by omega)]
  simp only[this]
 simp only[decide_eq_true (Nat.lt_succ_self i),Bool.true_or] at this;exact this
theorem Ql {c:Bool}{L:List Nd}{i:Nat}:okR 9 (frR c L i):=by
 intro r hr;obtain ⟨j,_,rfl⟩:=List.mem_map.1 hr;refine ⟨rfl,fun y hy => ?_⟩
 simp at hy;rcases hy with rfl | rfl | rfl | rfl | rfl | rfl <;> first | exact Nat.one_pos | exact (by decide:0 < 4)
section
variable {I:WInv}{c c':Bool}
def WR (k:Nat)(M:List (List It0))(n:Nat)(f:Bool)(z:Int)(i:Int):Go.Proofs.YtdgbealknnmkoaaGreatDoor.St:=⟨[(7,.p 20 0),(4,.p 5 0),(32,.i (n:Int)),(33,.i i)],[(k,some ⟨103,some (9,n),Aa M⟩),(20,some ⟨46,none,[.sl k,.o f,.i z]⟩),(5,some ⟨46,none,[.z,.o false,.i 0]⟩)],50⟩
def AbN (k:Nat)(M:List (List It0))(n:Nat)(f:Bool)(z:Int):Go.Proofs.YtdgbealknnmkoaaGreatDoor.St:=⟨[(7,.p 20 0),(4,.p 5 0)],[(k,some ⟨103,some (9,n),Aa M⟩),(20,some ⟨46,none,[.sl k,.o f,.i z]⟩),(5,some ⟨46,none,[.z,.o false,.i 0]⟩)],50⟩
theorem Q4 (M:List Nd)(f:Bool)(z:Int)(n:Nat)(hn:M.length=n)(hl:n≤2002):LoopTr Tryz.prog I 50 (AK Tryz.prog 34 0) (WR 14 (M.map (Ac c)) n f z ((0:Nat):Int)) (.exit 0) (AbN 14 (M.map (Ac true)) n f z):=by
 rw[←RT];refine Bq (by simp) (fun i=>WR 14 (frR c M i) n f z (i:Int)) n (fun i hi => ?_) ?_
 ·have hi:i < M.length:=by omega
  exact Rnd.nam [] (show Rnd _ _ _ _ _ _ ⟨[(7,.p 20 0),(4,.p 5 0),(32,.i (n:Int)),(33,.i ((i+1:Nat):Int))],[(14,some ⟨103,some (9,n),Aa ((frR c M i).set i [.lit (.int .i64 ((tat M i).par)),.lit (.int .i64 ((tat M i).fst)),.lit (.int .i64 ((tat M i).nxt)),.lit (.bool ((tat M i).tog)),.it (fF true 12 ((tat M i).q)),.lit (.int .i64 ((tat M i).st))])⟩),(20,some ⟨46,none,[.sl 14,.o f,.i z]⟩),(5,some ⟨46,none,[.z,.o false,.i 0]⟩)],68⟩ from rr [pk (Ak 3 (i:Int) (n:Int)),⟨.ix (i:Int) i n,⟨by omega,by omega⟩⟩,⟨.part (Aa (frR c M i)) (i*9+4) 4 [.b (.it (fF c 12 (tat M i).q))],(Hg (sz:=9) (r:=Ac c (tat M i)) (Mh hi) Ql (fo:=4) (n:=4) rfl)⟩,po (Kj (I:=I) (c:=c) (p:=(tat M i).q)),⟨.ix (i:Int) i n,⟨by omega,by omega⟩⟩,⟨.upd (Aa (frR c M i)) (i*9+4) [.b (.it (fF true 12 ((tat M i).q)))] (Aa ((frR c M i).set i [.lit (.int .i64 ((tat M i).par)),.lit (.int .i64 ((tat M i).fst)),.lit (.int .i64 ((tat M i).nxt)),.lit (.bool ((tat M i).tog)),.it (fF true 12 ((tat M i).q)),.lit (.int .i64 ((tat M i).st))])),(JC (sz:=9) (r:=Ac c (tat M i)) (r':=[.lit (.int .i64 ((tat M i).par)),.lit (.int .i64 ((tat M i).fst)),.lit (.int .i64 ((tat M i).nxt)),.lit (.bool ((tat M i).tog)),.it (fF true 12 ((tat M i).q)),.lit (.int .i64 ((tat M i).st))]) (Mh hi) Ql (fo:=4) rfl)⟩,pk (Ay 3 (i:Int) 1 ⟨by omega,by omega⟩)]) (t:=⟨[(7,.p 20 0),(4,.p 5 0),(32,.i (n:Int)),(33,.i ((i+1:Nat):Int))],[(14,some ⟨103,some (9,n),Aa (frR c M (i+1))⟩),(20,some ⟨46,none,[.sl 14,.o f,.i z]⟩),(5,some ⟨46,none,[.z,.o false,.i 0]⟩)],50⟩) ⟨rfl,TVle.refl,rfl,TVle.refl,rfl,TVle.refl,rfl,TVle.refl,trivial⟩ ⟨rfl,rfl,rfl,ILe.eq (show Aa ((frR c M i).set i [.lit (.int .i64 ((tat M i).par)),.lit (.int .i64 ((tat M i).fst)),.lit (.int .i64 ((tat M i).nxt)),.lit (.bool ((tat M i).tog)),.it (fF true 12 ((tat M i).q)),.lit (.int .i64 ((tat M i).st))])=Aa (frR c M (i+1)) from (congrArg Aa (UB hi))),rfl,rfl,rfl,ILe.refl,rfl,rfl,rfl,ILe.refl,trivial⟩
 ·have e:=UC c M
  rw[hn] at e;show Rnd Tryz.prog I _ _ (WR 14 (frR c M n) n f z (n:Int)) _ _;rw[e];exact Rnd.nam [] (show Rnd _ _ _ _ _ _ ⟨[(7,.p 20 0),(4,.p 5 0)],[(14,some ⟨103,some (9,n),Aa ((M).map (Ac true))⟩),(20,some ⟨46,none,[.sl 14,.o f,.i z]⟩),(5,some ⟨46,none,[.z,.o false,.i 0]⟩)],51⟩ from rr [pk (Ai 3 (n:Int) (n:Int))]) (t:=⟨[(7,.p 20 0),(4,.p 5 0)],[(14,some ⟨103,some (9,n),Aa ((M).map (Ac true))⟩),(20,some ⟨46,none,[.sl 14,.o f,.i z]⟩),(5,some ⟨46,none,[.z,.o false,.i 0]⟩)],50⟩) ⟨rfl,TVle.refl,rfl,TVle.refl,trivial⟩ ⟨rfl,rfl,rfl,ILe.refl,rfl,rfl,rfl,ILe.refl,rfl,rfl,rfl,ILe.refl,trivial⟩
theorem Q3 (M:List Nd)(f:Bool)(z:Int)(n:Nat)(hn:M.length=n)(hl:n≤2002):LoopTr Tryz.prog I 50 (AK Tryz.prog 34 0) (WR 23 (M.map (Ac c)) n f z ((0:Nat):Int)) (.exit 0) (AbN 23 (M.map (Ac true)) n f z):=by
 rw[←RT];refine Bq (by simp) (fun i=>WR 23 (frR c M i) n f z (i:Int)) n (fun i hi => ?_) ?_
 ·have hi:i < M.length:=by omega
  exact Rnd.nam [] (show Rnd _ _ _ _ _ _ ⟨[(7,.p 20 0),(4,.p 5 0),(32,.i (n:Int)),(33,.i ((i+1:Nat):Int))],[(23,some ⟨103,some (9,n),Aa ((frR c M i).set i [.lit (.int .i64 ((tat M i).par)),.lit (.int .i64 ((tat M i).fst)),.lit (.int .i64 ((tat M i).nxt)),.lit (.bool ((tat M i).tog)),.it (fF true 12 ((tat M i).q)),.lit (.int .i64 ((tat M i).st))])⟩),(20,some ⟨46,none,[.sl 23,.o f,.i z]⟩),(5,some ⟨46,none,[.z,.o false,.i 0]⟩)],68⟩ from rr [pk (Ak 3 (i:Int) (n:Int)),⟨.ix (i:Int) i n,⟨by omega,by omega⟩⟩,⟨.part (Aa (frR c M i)) (i*9+4) 4 [.b (.it (fF c 12 (tat M i).q))],(Hg (sz:=9) (r:=Ac c (tat M i)) (Mh hi) Ql (fo:=4) (n:=4) rfl)⟩,po (Kj (I:=I) (c:=c) (p:=(tat M i).q)),⟨.ix (i:Int) i n,⟨by omega,by omega⟩⟩,⟨.upd (Aa (frR c M i)) (i*9+4) [.b (.it (fF true 12 ((tat M i).q)))] (Aa ((frR c M i).set i [.lit (.int .i64 ((tat M i).par)),.lit (.int .i64 ((tat M i).fst)),.lit (.int .i64 ((tat M i).nxt)),.lit (.bool ((tat M i).tog)),.it (fF true 12 ((tat M i).q)),.lit (.int .i64 ((tat M i).st))])),(JC (sz:=9) (r:=Ac c (tat M i)) (r':=[.lit (.int .i64 ((tat M i).par)),.lit (.int .i64 ((tat M i).fst)),.lit (.int .i64 ((tat M i).nxt)),.lit (.bool ((tat M i).tog)),.it (fF true 12 ((tat M i).q)),.lit (.int .i64 ((tat M i).st))]) (Mh hi) Ql (fo:=4) rfl)⟩,pk (Ay 3 (i:Int) 1 ⟨by omega,by omega⟩)]) (t:=⟨[(7,.p 20 0),(4,.p 5 0),(32,.i (n:Int)),(33,.i ((i+1:Nat):Int))],[(23,some ⟨103,some (9,n),Aa (frR c M (i+1))⟩),(20,some ⟨46,none,[.sl 23,.o f,.i z]⟩),(5,some ⟨46,none,[.z,.o false,.i 0]⟩)],50⟩) ⟨rfl,TVle.refl,rfl,TVle.refl,rfl,TVle.refl,rfl,TVle.refl,trivial⟩ ⟨rfl,rfl,rfl,ILe.eq (show Aa ((frR c M i).set i [.lit (.int .i64 ((tat M i).par)),.lit (.int .i64 ((tat M i).fst)),.lit (.int .i64 ((tat M i).nxt)),.lit (.bool ((tat M i).tog)),.it (fF true 12 ((tat M i).q)),.lit (.int .i64 ((tat M i).st))])=Aa (frR c M (i+1)) from (congrArg Aa (UB hi))),rfl,rfl,rfl,ILe.refl,rfl,rfl,rfl,ILe.refl,trivial⟩
 ·have e:=UC c M
  rw[hn] at e;show Rnd Tryz.prog I _ _ (WR 23 (frR c M n) n f z (n:Int)) _ _;rw[e];exact Rnd.nam [] (show Rnd _ _ _ _ _ _ ⟨[(7,.p 20 0),(4,.p 5 0)],[(23,some ⟨103,some (9,n),Aa ((M).map (Ac true))⟩),(20,some ⟨46,none,[.sl 23,.o f,.i z]⟩),(5,some ⟨46,none,[.z,.o false,.i 0]⟩)],51⟩ from rr [pk (Ai 3 (n:Int) (n:Int))]) (t:=⟨[(7,.p 20 0),(4,.p 5 0)],[(23,some ⟨103,some (9,n),Aa ((M).map (Ac true))⟩),(20,some ⟨46,none,[.sl 23,.o f,.i z]⟩),(5,some ⟨46,none,[.z,.o false,.i 0]⟩)],50⟩) ⟨rfl,TVle.refl,rfl,TVle.refl,trivial⟩ ⟨rfl,rfl,rfl,ILe.refl,rfl,rfl,rfl,ILe.refl,rfl,rfl,rfl,ILe.refl,trivial⟩
def apC (L:List Nd)(f:Bool)(z:Int)(x:Ch):Int:=if tvc L f z≠0 then tvc L f z else chE L x
def apS (L:List Nd)(f:Bool)(z:Int)(x:Ch):List Nd×Bool×Int:=if apC L f z x=0 then chS L f z x else ([],false,0)
theorem Ado:CTle (.ag [.z,.o false,.i 0]) (trT true [] false 0):=ILe.ag (ILe.cons (fun N w g l hl=>by
 have hl:l=[.slice none 0 0]:=hl;subst hl;exact ⟨none,0,rfl,Nat.le_refl _,by simp[maxLen],fun h=>absurd rfl h⟩) ILe.refl)
theorem Sp.errT {P:Program}{g:FuncId}{args:List CT}{r:CT}(h:Sp P I g args (.tu [.ag [.z,.o false,.i 0],r])):Sp P I g args (.tu [trT true [] false 0,r]):=h.rs (QG ⟨Ado,CTle.refl,trivial⟩)
theorem UP (L:List Nd)(f:Bool)(z:Int)(x:Ch):(chM L f z x).1.length=if x.kind=2 then L.length+2 else L.length:=by
 unfold chM;by_cases k1:x.kind=1
 ·rw[if_pos k1,if_neg (by omega)]
  unfold raL
  dsimp only
  split
  ·rw[List.length_set]
  ·rfl
 ·rw[if_neg k1]
  by_cases k2:x.kind=2
  ·rw[if_pos k2,if_pos k2]
   unfold spL;rw[List.length_append,EO];rfl
  ·rw[if_neg k2,if_neg k2]
theorem Qx (L:List Nd)(f:Bool)(z:Int)(x:Ch):(chS L f z x).1.length=if x.kind=2 then L.length+2 else L.length:=by
 unfold chS clL;rw[List.length_map,UP]
theorem WS (L:List Nd)(f:Bool)(z:Int)(x:Ch)(h:tvc L f z=0)(hc:chE L x=0):SpM Tryz.prog I 34 [] [trT c L f z,chT c' x] [(2,some (nbx true (chS L f z x).1 (chS L f z x).1.length))] (.tu [.ag [.sl 2,.b (.lit (.bool (chS L f z x).2.1)),.b (.lit (.int .i64 (chS L f z x).2.2))],ci 0]):=by
 obtain ⟨h1,h2,_,_,_,h6,_⟩:=DM h;have hD:=(KG h6).2;have va:=FN (I:=I) (c:=c) L f z (by omega)
 rw[h] at va;have cl:=OV (I:=I) (c:=c) L (by omega) (by omega)
 have hlen:=Qx L f z x;by_cases hk:x.kind=2
 ·rw[if_pos hk] at hlen
  have hs:=K3 (I:=I) (c:=c) (c':=c') L f z L.length rfl h2 hD x hc hk;rw[hlen];generalize chS L f z x=p at *;obtain ⟨M,f2,z2⟩:=p;have lo:=Q3 (I:=I) (c:=c) M f2 z2 (L.length+2) hlen (by omega)
  generalize L.length=n at *
  dsimp only at hs ⊢
  exact sm 50 [po (va),pa,pon (cl),pom [20,14] (hs),pa,pl (lo),pm ((show Leads I _ ⟨[(7,.p 20 0),(4,.p 5 0)],[(23,some ⟨103,some (9,n+2),Aa ((M).map (Ac true))⟩),(20,some ⟨46,none,[.sl 23,.o f2,.i z2]⟩),(5,some ⟨46,none,[.z,.o false,.i 0]⟩)],50⟩ ⟨[(7,.p 20 0),(4,.p 5 0)],[(2,some ⟨103,some (9,n+2),Aa ((M).map (Ac true))⟩),(20,some ⟨46,none,[.sl 2,.o f2,.i z2]⟩),(5,some ⟨46,none,[.z,.o false,.i 0]⟩)],50⟩ from AL [(2,23)] ⟨rfl,TVle.refl,rfl,TVle.refl,trivial⟩ ⟨rfl,rfl,rfl,ILe.refl,rfl,rfl,rfl,ILe.refl,rfl,rfl,rfl,ILe.refl,trivial⟩))]
 ·rw[if_neg hk] at hlen
  have hs:=LE (I:=I) (c:=c) (c':=c') L f z L.length rfl h2 x hc hk;rw[hlen];generalize chS L f z x=p at *;obtain ⟨M,f2,z2⟩:=p;have lo:=Q4 (I:=I) (c:=c) M f2 z2 L.length hlen (by omega)
  generalize L.length=n at *
  dsimp only at hs ⊢
  exact sm 50 [po (va),pa,pon (cl),pom [20,14] (hs),pa,pl (lo),pm ((show Leads I _ ⟨[(7,.p 20 0),(4,.p 5 0)],[(14,some ⟨103,some (9,n),Aa ((M).map (Ac true))⟩),(20,some ⟨46,none,[.sl 14,.o f2,.i z2]⟩),(5,some ⟨46,none,[.z,.o false,.i 0]⟩)],50⟩ ⟨[(7,.p 20 0),(4,.p 5 0)],[(2,some ⟨103,some (9,n),Aa ((M).map (Ac true))⟩),(20,some ⟨46,none,[.sl 2,.o f2,.i z2]⟩),(5,some ⟨46,none,[.z,.o false,.i 0]⟩)],50⟩ from AL [(2,14)] ⟨rfl,TVle.refl,rfl,TVle.refl,trivial⟩ ⟨rfl,rfl,rfl,ILe.refl,rfl,rfl,rfl,ILe.refl,rfl,rfl,rfl,ILe.refl,trivial⟩))]
theorem Vs (L:List Nd)(f:Bool)(z:Int)(hl:L.length≤1000000000)(x:Ch):Sp Tryz.prog I 34 [trT c L f z,chT c' x] (.tu [trT true (apS L f z x).1 (apS L f z x).2.1 (apS L f z x).2.2,ci (apC L f z x)]):=by
 by_cases h:tvc L f z=0
 ·have e:apC L f z x=chE L x:=by unfold apC;rw[if_neg (fun hh=>hh h)]
  unfold apS;rw[e];by_cases hc:chE L x=0
  ·rw[if_pos hc,hc]
   exact (WS (I:=I) (c:=c) (c':=c') L f z x h hc).freeze (by rw[List.length_map]) EH rfl
  ·rw[if_neg hc]
   obtain ⟨h1,h2,_,_,_,h6,_⟩:=DM h;have hD:=(KG h6).2;have va:=FN (I:=I) (c:=c) L f z (by omega)
   rw[h] at va;have cl:=OV (I:=I) (c:=c) L (by omega) (by omega)
   have hs:=NK (I:=I) (c:=c) (c':=c') L f z L.length rfl h2 hD x hc;refine Sp.errT ?_;generalize chE L x=r at *;generalize L.length=n at *;exact sr 50 [po (va),pa,pon (cl),pom [17,11] (hs),pk (AI 32 r 0)]
 ·have e:apC L f z x=tvc L f z:=by unfold apC;rw[if_pos h]
  unfold apS;rw[e,if_neg h];have va:=FN (I:=I) (c:=c) L f z hl;refine Sp.errT ?_;generalize tvc L f z=r at *;exact sr 50 [po (va),pk (AI 32 r 0)]
def CS (q:Rat):List Nd:=[⟨-1,0,0,false,q,0⟩]
end
abbrev Bl (x:Bool):List It0:=[.lit (.bool x)]
def bat (D:List Bool)(i:Nat):Bool:=D.getD i false
theorem Z2 {D:List Bool}{i:Nat}(h:i < D.length):D[i]? = some (bat D i):=by unfold bat;rw[List.getD_eq_getElem?_getD,List.getElem?_eq_getElem h];rfl
theorem Abl {D:List Bool}{i:Nat}{f:Bool→List It0}(h:i < D.length):(D.map f)[i]? = some (f (bat D i)):=map_some (Z2 h)
theorem Ui {D:List Bool} : ∀ r∈D.map Bl,Ce r=1:=by intro r hr;obtain ⟨x,_,rfl⟩:=List.mem_map.1 hr;rfl
def Av (L:List Nd):List Int:=L.map (·.par)
def AG (L:List Nd):List De:=L.map dcn
def Ca (L:List Nd):List Bool:=L.map fun x=>decide (x.st=1)
theorem JT {L:List Nd}{i:Nat}(h:i < L.length):iat (Av L) i=(tat L i).par:=by unfold iat Av;rw[List.getD_eq_getElem?_getD,List.getElem?_map,Dm h];rfl
theorem Kv {L:List Nd}{i:Nat}(h:i < L.length):dat (AG L) i=dcn (tat L i):=by unfold dat AG;rw[List.getD_eq_getElem?_getD,List.getElem?_map,Dm h];rfl
theorem FP {L:List Nd}{i:Nat}(h:i < L.length):bat (Ca L) i=decide ((tat L i).st=1):=by unfold bat Ca;rw[List.getD_eq_getElem?_getD,List.getElem?_map,Dm h];rfl
theorem Dp (L:List Nd):(Av L).length=L.length:=List.length_map _
theorem EW (L:List Nd):(AG L).length=L.length:=List.length_map _
theorem G4 (L:List Nd):(Ca L).length=L.length:=List.length_map _
def Cl {α:Type}(L:List Nd)(g:Nd→α)(i:Nat):List α:=(List.range i).map fun j=>g (tat L j)
theorem DT {α:Type}(L:List Nd)(g:Nd→α)(i:Nat):Cl L g (i+1)=Cl L g i++[g (tat L i)]:=by unfold Cl;rw[List.range_succ,List.map_append];rfl
theorem ET {α:Type}(L:List Nd)(g:Nd→α):Cl L g L.length=L.map g:=KO L g
section
variable {I:WInv}{c c':Bool}
def Yi (c:Bool)(L:List Nd)(f:Bool)(z:Int)(i:Nat):Go.Proofs.YtdgbealknnmkoaaGreatDoor.St:=⟨[(1,.p 0 0),(5,.s 40),(6,.s 41),(7,.s 42),(8,.i (i:Int))],[(40,some ⟨3,some (1,i),Aa ((Cl L (·.par) i).map Ae)⟩),(41,some ⟨101,some (3,i),Aa ((Cl L dcn i).map AA)⟩),(42,some ⟨4,some (1,i),Aa ((Cl L (fun x=>decide (x.st=1)) i).map Bl)⟩),(0,some ⟨46,none,[.b (.it (slI 9 ((L).map (Ac c)))),.o f,.i z]⟩)],50⟩
theorem RD (L:List Nd)(f:Bool)(z:Int)(i:Nat)(hi:i < L.length)(hl:L.length≤2002):Rnd Tryz.prog I 47 (AK Tryz.prog 75 0) (Yi c L f z i) .normal (Yi c L f z (i+1)):=by
 exact Rnd.nam [(40,63),(41,72),(42,82)] (show Rnd _ _ _ _ _ _ ⟨[(1,.p 0 0),(5,.s 63),(6,.s 72),(7,.s 82),(8,.i ((i+1:Nat):Int))],[(63,some ⟨3,some (1,i+1),(Aa ((Cl L (·.par) i).map Ae))++([.i ((tat L i).par)])⟩),(72,some ⟨101,some (3,i+1),(Aa ((Cl L dcn i).map AA))++([.i ((tat L i).fst),.i ((tat L i).nxt),.o ((tat L i).tog)])⟩),(82,some ⟨4,some (1,i+1),(Aa ((Cl L (fun x=>decide (x.st=1)) i).map Bl))++([.o (decide (((tat L i).st)=1))])⟩),(0,some ⟨46,none,[.b (.it (slI 9 ((L).map (Ac c)))),.o f,.i z]⟩)],89⟩ from rr [pk (Al 44 103 3 9 ((L).map (Ac c)) ((L).length:Int)),pk (Ak 3 (i:Int) ((L).length:Int)),pk (Aj 44 103 9 ((L).map (Ac c)) i (i:Int) ((Ac c) (tat L i)) (An hi)),⟨.ap i 1 8,⟨by omega,by simp[maxLen];omega⟩⟩,pk (Aj 44 103 9 ((L).map (Ac c)) i (i:Int) ((Ac c) (tat L i)) (An hi)),⟨.ap i 1 24,⟨by omega,by simp[maxLen];omega⟩⟩,pk (Aj 44 103 9 ((L).map (Ac c)) i (i:Int) ((Ac c) (tat L i)) (An hi)),pk (AO 3 ((tat L i).st) 1 (decide (((tat L i).st)=1)) rfl),⟨.ap i 1 1,⟨by omega,by simp[maxLen];omega⟩⟩,pk (Ay 3 (i:Int) 1 ⟨by omega,by omega⟩)]) (t:=⟨[(1,.p 0 0),(5,.s 40),(6,.s 41),(7,.s 42),(8,.i ((i+1:Nat):Int))],[(40,some ⟨3,some (1,i+1),Aa ((Cl L (·.par) (i+1)).map Ae)⟩),(41,some ⟨101,some (3,i+1),Aa ((Cl L dcn (i+1)).map AA)⟩),(42,some ⟨4,some (1,i+1),Aa ((Cl L (fun x=>decide (x.st=1)) (i+1)).map Bl)⟩),(0,some ⟨46,none,[.b (.it (slI 9 ((L).map (Ac c)))),.o f,.i z]⟩)],50⟩) ⟨rfl,TVle.refl,rfl,TVle.refl,rfl,TVle.refl,rfl,TVle.refl,rfl,TVle.refl,trivial⟩ ⟨rfl,rfl,rfl,ILe.eq (show (Aa ((Cl L (·.par) i).map Ae))++([.i ((tat L i).par)])=Aa ((Cl L (·.par) (i+1)).map Ae) from (by rw[DT,List.map_append,C6];rfl)),rfl,rfl,rfl,ILe.eq (show (Aa ((Cl L dcn i).map AA))++([.i ((tat L i).fst),.i ((tat L i).nxt),.o ((tat L i).tog)])=Aa ((Cl L dcn (i+1)).map AA) from (by rw[DT,List.map_append,C6];rfl)),rfl,rfl,rfl,ILe.eq (show (Aa ((Cl L (fun x=>decide (x.st=1)) i).map Bl))++([.o (decide (((tat L i).st)=1))])=Aa ((Cl L (fun x=>decide (x.st=1)) (i+1)).map Bl) from (by rw[DT,List.map_append,C6];rfl)),rfl,rfl,rfl,ILe.refl,trivial⟩
theorem Wg (L:List Nd)(f:Bool)(z:Int):Leads I 47 ⟨[(1,.p 0 0),(5,.cv (.one (.z))),(6,.cv (.one (.z))),(7,.cv (.one (.z))),(8,.i 0)],[(0,some ⟨46,none,[.b (.it (slI 9 ((L).map (Ac c)))),.o f,.i z]⟩)],47⟩ (Yi c L f z 0) :=
 (Gc (t:=5) (k:=40) 3 1 rfl rfl rfl).trans ((Gc (t:=6) (k:=41) 101 3 rfl rfl rfl).trans ((Gc (t:=7) (k:=42) 4 1 rfl rfl rfl).trans (Ju ⟨rfl,rfl,rfl,rfl,rfl,trivial⟩ ⟨rfl,rfl,rfl,rfl,trivial⟩)))
theorem Tj (L:List Nd)(f:Bool)(z:Int)(n:Nat)(hn:L.length=n)(hl:n≤2002):LoopTr Tryz.prog I 47 (AK Tryz.prog 75 0) ⟨[(1,.p 0 0),(5,.cv (.one (.z))),(6,.cv (.one (.z))),(7,.cv (.one (.z))),(8,.i 0)],[(0,some ⟨46,none,[.b (.it (slI 9 ((L).map (Ac c)))),.o f,.i z]⟩)],47⟩ (.exit 0) ⟨[(5,.s 40),(6,.s 41),(7,.s 42)],[(40,some ⟨3,some (1,n),Aa ((Av L).map Ae)⟩),(41,some ⟨101,some (3,n),Aa ((AG L).map AA)⟩),(42,some ⟨4,some (1,n),Aa ((Ca L).map Bl)⟩)],50⟩:=by
 refine LoopTr.pre (Wg L f z) (Bq (by simp) (fun i=>Yi c L f z i) n (fun i hi=>RD L f z i (by omega) (by omega)) ?_)
 unfold Yi;rw[←hn,ET,ET,ET,hn];exact Rnd.nam [] (show Rnd _ _ _ _ _ _ ⟨[(5,.s 40),(6,.s 41),(7,.s 42)],[(40,some ⟨3,some (1,n),Aa ((Av L).map Ae)⟩),(41,some ⟨101,some (3,n),Aa ((AG L).map AA)⟩),(42,some ⟨4,some (1,n),Aa ((Ca L).map Bl)⟩)],55⟩ from rr [pk (Al 44 103 3 9 ((L).map (Ac c)) ((L).length:Int)),pk (Ai 3 (n:Int) ((L).length:Int))]) (t:=⟨[(5,.s 40),(6,.s 41),(7,.s 42)],[(40,some ⟨3,some (1,n),Aa ((Av L).map Ae)⟩),(41,some ⟨101,some (3,n),Aa ((AG L).map AA)⟩),(42,some ⟨4,some (1,n),Aa ((Ca L).map Bl)⟩)],50⟩) ⟨rfl,TVle.refl,rfl,TVle.refl,rfl,TVle.refl,trivial⟩ ⟨rfl,rfl,rfl,ILe.refl,rfl,rfl,rfl,ILe.refl,rfl,rfl,rfl,ILe.refl,trivial⟩
abbrev Rs (L:List Nd):CT := .t (slI 1 ((Av L).map Ae))
abbrev Sg (L:List Nd):CT := .t (deI (AG L))
abbrev Aca (L:List Nd):CT := .t (slI 1 ((Ca L).map Bl))
theorem Ym (L:List Nd)(f:Bool)(z:Int)(hl:L.length≤2002):Sp Tryz.prog I 75 [trT c L f z] (.tu [Rs L,Sg L,Aca L]):=by
 obtain ⟨n,hn⟩ : ∃ n,L.length=n:=⟨_,rfl⟩;have lo:=Tj (I:=I) (c:=c) L f z n hn (by omega)
 exact sr 47 [pl (lo),pm (AX (I:=I) (t:=5) (k:=40) (E:=[(6,.s 41),(7,.s 42)]) (B:=[(41,some ⟨101,some (3,n),Aa ((AG L).map AA)⟩),(42,some ⟨4,some (1,n),Aa ((Ca L).map Bl)⟩)]) (nx:=50) (T:=3) (sz:=1) (n:=n) ((Av L).map Ae) rfl (by rw[List.length_map,Dp];exact hn.symm) LV rfl),pm (AX (I:=I) (t:=6) (k:=41) (E:=[(5,.t (slI 1 ((Av L).map (Ae)))),(7,.s 42)]) (B:=[(42,some ⟨4,some (1,n),Aa ((Ca L).map Bl)⟩)]) (nx:=50) (T:=101) (sz:=3) (n:=n) ((AG L).map AA) rfl (by rw[List.length_map,EW];exact hn.symm) PC rfl),pm (AX (I:=I) (t:=7) (k:=42) (E:=[(5,.t (slI 1 ((Av L).map (Ae)))),(6,.t (slI 3 ((AG L).map (AA))))]) (B:=[]) (nx:=50) (T:=4) (sz:=1) (n:=n) ((Ca L).map Bl) rfl (by rw[List.length_map,G4];exact hn.symm) Ui rfl)]
theorem Dw (L:List Nd):Ba L 0=[]:=by unfold Ba;rw[M0];rfl
theorem Cw {L:List Nd}{i j:Nat}(h:(tat L i).par=(j:Int))(hj:j < i):Ba L i=Ba L j++[dcn (tat L i)]:=by unfold Ba;rw[M1 h hj,List.reverse_cons]
theorem Ho (L:List Nd)(i:Nat):(Ba L i).length≤i:=by unfold Ba;rw[List.length_reverse];exact KB L i
theorem MM (p d:CT):Sp Tryz.prog I 76 [p,d,ci 0] (.cv (.one (.z))):=sr 22 [pa]
abbrev Rr (D:List De):Ent:=⟨101,some (3,D.length),Aa (D.map AA)⟩
theorem VG (L:List Nd)(hl:L.length≤1000000) : ∀ i:Nat,0 < i→i < L.length→Dn L i→SpM Tryz.prog I 76 [] [Rs L,Sg L,ci (i:Int)] [(2,some (Rr (Ba L i)))] (.s 2):=by
 intro i;induction i using Nat.strongRecOn with
 | _ i ih =>
  intro h0 hi hD;obtain ⟨j,hj,hlt⟩:=hD.nat h0 (Nat.le_refl _);have hpa:=JT hi;rw[hj] at hpa;have hdl:=Ho L j;rw[Cw hj hlt,←Kv hi];by_cases hj0:j=0
  ·subst hj0
   rw[Dw];have hr:=MM (I:=I) (Rs L) (Sg L);rw[show (0:Int)=iat (Av L) i from hpa.symm] at hr;exact sm 22 [pk (J6 3 (i:Int) 0),pk (Aj 40 3 1 ((Av L).map (Ae)) i (i:Int) (Ae (iat (Av L) i)) (AC (by rw[Dp];exact hi))),po (hr),pk (Aj 110 101 3 ((AG L).map (AA)) i (i:Int) (AA (dat (AG L) i)) (AW (by rw[EW];exact hi))),⟨.ap 0 1 24,⟨by omega,by simp only[maxLen];omega⟩⟩,pm ((show Leads I _ ⟨[(6,.s 18)],[(18,some ⟨101,some (3,1),[.i ((dat (AG L) i).1),.i ((dat (AG L) i).2.1),.o ((dat (AG L) i).2.2)]⟩)],20⟩ ⟨[(6,.s 2)],[(2,some ⟨101,some (3,1),[.i ((dat (AG L) i).1),.i ((dat (AG L) i).2.1),.o ((dat (AG L) i).2.2)]⟩)],20⟩ from AL [(2,18)] ⟨rfl,TVle.refl,trivial⟩ ⟨rfl,rfl,rfl,ILe.refl,trivial⟩))]
  ·have hr:=ih j hlt (by omega) (by omega) (fun x h1 h2=>hD x h1 (by omega))
   rw[←hpa] at hr;generalize Ba L j=D at *;unfold Rr;rw[List.length_append];exact sm 22 [pk (J6 3 (i:Int) 0),pk (Aj 40 3 1 ((Av L).map (Ae)) i (i:Int) (Ae (iat (Av L) i)) (AC (by rw[Dp];exact hi))),pom [] (hr),pk (Aj 110 101 3 ((AG L).map (AA)) i (i:Int) (AA (dat (AG L) i)) (AW (by rw[EW];exact hi))),⟨.ap D.length 1 24,⟨by omega,by simp only[maxLen];omega⟩⟩,pm ((show Leads I _ ⟨[(6,.s 18)],[(18,some ⟨101,some (3,D.length+1),(Aa ((D).map AA))++([.i ((dat (AG L) i).1),.i ((dat (AG L) i).2.1),.o ((dat (AG L) i).2.2)])⟩)],20⟩ ⟨[(6,.s 2)],[(2,some ⟨101,some (3,D.length+1),Aa ((D++[(dat (AG L) i)]).map AA)⟩)],20⟩ from AL [(2,18)] ⟨rfl,TVle.refl,trivial⟩ ⟨rfl,rfl,rfl,ILe.eq (show (Aa ((D).map AA))++([.i ((dat (AG L) i).1),.i ((dat (AG L) i).2.1),.o ((dat (AG L) i).2.2)])=Aa ((D++[(dat (AG L) i)]).map AA) from (by rw[List.map_append,C6];rfl)),trivial⟩))]
theorem Ac4 {sz:Nat}:TVle (.cv (.one (.z))) (tit (slI sz [])):=fun N w g v hl=>by
 have hl:[v]=[.slice none 0 0]:=hl;injection hl with hl;subst hl;exact ⟨none,0,rfl,Nat.le_refl _,by simp[maxLen],fun h=>absurd rfl h⟩
theorem MN (L:List Nd)(hl:L.length≤1000000)(i:Nat)(hi:i < L.length)(hD:Dn L i):Sp Tryz.prog I 76 [Rs L,Sg L,ci (i:Int)] (tit (deI (Ba L i))):=by
 by_cases h0:i=0
 ·subst h0
  rw[Dw];exact (MM (Rs L) (Sg L)).rs Ac4
 ·exact (VG L hl i (by omega) hi hD).freeze (by rw[List.length_map]) PC rfl
end
theorem YH {D:List De}{i:Nat}{b:Bool}(h:i < D.length)(hb:(dat D i).2.2=b):(D.map AA)[i]? = some [.lit (.int .i64 (dat D i).1),.lit (.int .i64 (dat D i).2.1),.lit (.bool b)]:=by rw[←hb];exact AW h
theorem Lo {D:List Bool}{i:Nat}{b:Bool}(h:i < D.length)(hb:bat D i=b):(D.map Bl)[i]? = some [.lit (.bool b)]:=by rw[←hb];exact Abl h
section
variable {I:WInv}{c c':Bool}
theorem WZ (x:De):Sp Tryz.prog I 155 [.ag (dcl x)] (lb (decide (x=(0,0,false)))):=by
 by_cases h1:x.1=0
 ·by_cases h2:x.2.1=0
  ·obtain ⟨a,b,t⟩:=x
   cases t with
   | true =>
    rw[show decide ((a,b,true)=(0,0,false))=false by simp]
    exact sr 16 [pk (AO 3 a 0 true (decide_eq_true h1)),pk (AO 3 b 0 true (decide_eq_true h2)),pa]
   | false =>
    rw[show decide ((a,b,false)=(0,0,false))=true by simp at h1 h2 ⊢;exact ⟨h1,h2⟩]
    exact sr 16 [pk (AO 3 a 0 true (decide_eq_true h1)),pk (AO 3 b 0 true (decide_eq_true h2)),pa]
  ·rw[show decide (x=(0,0,false))=false from decide_eq_false fun h=>h2 (by rw[h])]
   exact sr 16 [pk (AO 3 x.1 0 true (decide_eq_true h1)),pk (AO 3 x.2.1 0 false (decide_eq_false h2))]
 ·rw[show decide (x=(0,0,false))=false from decide_eq_false fun h=>h1 (by rw[h])]
  exact sr 16 [pk (AO 3 x.1 0 false (decide_eq_false h1))]
def MY (L:List Nd)(n:Nat)(C:List Int)(i:Int):Go.Proofs.YtdgbealknnmkoaaGreatDoor.St:=⟨[(0,.t (slI 1 ((Av L).map (Ae)))),(1,.t (slI 3 ((AG L).map (AA)))),(2,.t (slI 1 ((Ca L).map (Bl)))),(7,.i (n:Int)),(8,.s 25),(9,.i i)],[(25,some ⟨3,some (1,n),Aa ((C).map Ae)⟩)],50⟩
def Rm (nx:Nat):Go.Proofs.YtdgbealknnmkoaaGreatDoor.St:=⟨[(6,lb false)],[],nx⟩
theorem GF (L : List Nd) (n : Nat) (hn : L.length = n) (m : Nat) (hm : 2 * m + 2 < n) (hl : n ≤ 2002) :
  (prB L m=true→Rnd Tryz.prog I 192 (AK Tryz.prog 114 0) (MY L n (clt L m) (2*(m:Int)+1)) .normal (MY L n (clt L (m+1)) (2*((m+1:Nat):Int)+1))) ∧
  (prB L m=false→Rnd Tryz.prog I 192 (AK Tryz.prog 114 0) (MY L n (clt L m) (2*(m:Int)+1)) .ret (Rm 50)):=by
 have e1:2*m+1 < (Av L).length:=by rw[Dp];omega
 have e2:2*m+2 < (Av L).length:=by rw[Dp];omega
 have f1:2*m+1 < (AG L).length:=by rw[EW];omega
 have f2:2*m+2 < (AG L).length:=by rw[EW];omega
 have hlp:=Dp L;have g1:=JT (L:=L) (i:=2*m+1) (by omega)
 have g2:=JT (L:=L) (i:=2*m+2) (by omega)
 have d1:=Kv (L:=L) (i:=2*m+1) (by omega)
 have d2:=Kv (L:=L) (i:=2*m+2) (by omega)
 have a1:(dat (AG L) (2*m+1)).1=(tat L (2*m+1)).fst:=by rw[d1];rfl
 have a2:(dat (AG L) (2*m+1)).2.1=(tat L (2*m+1)).nxt:=by rw[d1];rfl
 have b1:(dat (AG L) (2*m+2)).1=(tat L (2*m+2)).fst:=by rw[d2];rfl
 have b2:(dat (AG L) (2*m+2)).2.1=(tat L (2*m+2)).nxt:=by rw[d2];rfl
 have a3:(dat (AG L) (2*m+1)).2.2=(tat L (2*m+1)).tog:=by rw[d1];rfl
 have b3:(dat (AG L) (2*m+2)).2.2=(tat L (2*m+2)).tog:=by rw[d2];rfl
 by_cases p1:(tat L (2*m+1)).par=(tat L (2*m+2)).par
 ·by_cases p2 : (tat L (2 * m + 1)).par < 0
  ·refine ⟨fun h=>absurd h (by unfold prB;simp;omega),fun _ => ?_⟩
   exact rr [pk (Ak 3 (2*(m:Int)+1) (n:Int)),pk (Aj 110 101 3 ((AG L).map (AA)) (2*m+1) (2*(m:Int)+1) (AA (dat (AG L) (2*m+1))) (AW f1)),pk (Ay 3 (2*(m:Int)+1) 1 ⟨by omega,by omega⟩),pk (Aj 110 101 3 ((AG L).map (AA)) (2*m+2) ((2*(m:Int)+1)+1) (AA (dat (AG L) (2*m+2))) (AW f2)),pk (Aj 40 3 1 ((Av L).map (Ae)) (2*m+1) (2*(m:Int)+1) (Ae (iat (Av L) (2*m+1))) (AC e1)),pk (Ay 3 (2*(m:Int)+1) 1 ⟨by omega,by omega⟩),pk (Aj 40 3 1 ((Av L).map (Ae)) (2*m+2) ((2*(m:Int)+1)+1) (Ae (iat (Av L) (2*m+2))) (AC e2)),pk (Ao 3 (iat (Av L) (2*m+1)) (iat (Av L) (2*m+2))),pk (Aj 40 3 1 ((Av L).map (Ae)) (2*m+1) (2*(m:Int)+1) (Ae (iat (Av L) (2*m+1))) (AC e1)),pk (Ak 3 (iat (Av L) (2*m+1)) 0)]
  ·by_cases p3 : 2 * (m : Int) + 1 ≤ (tat L (2 * m + 1)).par
   ·refine ⟨fun h=>absurd h (by unfold prB;simp;omega),fun _ => ?_⟩
    exact rr [pk (Ak 3 (2*(m:Int)+1) (n:Int)),pk (Aj 110 101 3 ((AG L).map (AA)) (2*m+1) (2*(m:Int)+1) (AA (dat (AG L) (2*m+1))) (AW f1)),pk (Ay 3 (2*(m:Int)+1) 1 ⟨by omega,by omega⟩),pk (Aj 110 101 3 ((AG L).map (AA)) (2*m+2) ((2*(m:Int)+1)+1) (AA (dat (AG L) (2*m+2))) (AW f2)),pk (Aj 40 3 1 ((Av L).map (Ae)) (2*m+1) (2*(m:Int)+1) (Ae (iat (Av L) (2*m+1))) (AC e1)),pk (Ay 3 (2*(m:Int)+1) 1 ⟨by omega,by omega⟩),pk (Aj 40 3 1 ((Av L).map (Ae)) (2*m+2) ((2*(m:Int)+1)+1) (Ae (iat (Av L) (2*m+2))) (AC e2)),pk (Ao 3 (iat (Av L) (2*m+1)) (iat (Av L) (2*m+2))),pk (Aj 40 3 1 ((Av L).map (Ae)) (2*m+1) (2*(m:Int)+1) (Ae (iat (Av L) (2*m+1))) (AC e1)),pk (Ai 3 (iat (Av L) (2*m+1)) 0),pk (Aj 40 3 1 ((Av L).map (Ae)) (2*m+1) (2*(m:Int)+1) (Ae (iat (Av L) (2*m+1))) (AC e1)),pk (Bn 3 (iat (Av L) (2*m+1)) (2*(m:Int)+1))]
   ·have hpp : (tat L (2 * m + 1)).par = ((pp L m : Nat) : Int) := by unfold pp; omega
    have cp:pp L m < (clt L m).length:=by rw[Ew];omega
    have bc:=Qt L m (pp L m);by_cases p4:(tat L (2*m+1)).fst=(tat L (2*m+2)).fst
    ·by_cases p5 : (tat L (2 * m + 1)).nxt = (tat L (2 * m + 2)).nxt
     ·by_cases p6 : (tat L (2 * m + 1)).fst < 0
      ·refine ⟨fun h=>absurd h (by unfold prB;simp;omega),fun _ => ?_⟩
       exact rr [pk (Ak 3 (2*(m:Int)+1) (n:Int)),pk (Aj 110 101 3 ((AG L).map (AA)) (2*m+1) (2*(m:Int)+1) (AA (dat (AG L) (2*m+1))) (AW f1)),pk (Ay 3 (2*(m:Int)+1) 1 ⟨by omega,by omega⟩),pk (Aj 110 101 3 ((AG L).map (AA)) (2*m+2) ((2*(m:Int)+1)+1) (AA (dat (AG L) (2*m+2))) (AW f2)),pk (Aj 40 3 1 ((Av L).map (Ae)) (2*m+1) (2*(m:Int)+1) (Ae (iat (Av L) (2*m+1))) (AC e1)),pk (Ay 3 (2*(m:Int)+1) 1 ⟨by omega,by omega⟩),pk (Aj 40 3 1 ((Av L).map (Ae)) (2*m+2) ((2*(m:Int)+1)+1) (Ae (iat (Av L) (2*m+2))) (AC e2)),pk (Ao 3 (iat (Av L) (2*m+1)) (iat (Av L) (2*m+2))),pk (Aj 40 3 1 ((Av L).map (Ae)) (2*m+1) (2*(m:Int)+1) (Ae (iat (Av L) (2*m+1))) (AC e1)),pk (Ai 3 (iat (Av L) (2*m+1)) 0),pk (Aj 40 3 1 ((Av L).map (Ae)) (2*m+1) (2*(m:Int)+1) (Ae (iat (Av L) (2*m+1))) (AC e1)),pk (Bd 3 (iat (Av L) (2*m+1)) (2*(m:Int)+1)),pk (Ao 3 ((dat (AG L) (2*m+1)).1) ((dat (AG L) (2*m+2)).1)),pk (Ao 3 ((dat (AG L) (2*m+1)).2.1) ((dat (AG L) (2*m+2)).2.1)),pk (Ak 3 ((dat (AG L) (2*m+1)).1) 0)]
      ·by_cases p7 : (tat L (2 * m + 1)).nxt < 0
       ·refine ⟨fun h=>absurd h (by unfold prB;simp;omega),fun _ => ?_⟩
        exact rr [pk (Ak 3 (2*(m:Int)+1) (n:Int)),pk (Aj 110 101 3 ((AG L).map (AA)) (2*m+1) (2*(m:Int)+1) (AA (dat (AG L) (2*m+1))) (AW f1)),pk (Ay 3 (2*(m:Int)+1) 1 ⟨by omega,by omega⟩),pk (Aj 110 101 3 ((AG L).map (AA)) (2*m+2) ((2*(m:Int)+1)+1) (AA (dat (AG L) (2*m+2))) (AW f2)),pk (Aj 40 3 1 ((Av L).map (Ae)) (2*m+1) (2*(m:Int)+1) (Ae (iat (Av L) (2*m+1))) (AC e1)),pk (Ay 3 (2*(m:Int)+1) 1 ⟨by omega,by omega⟩),pk (Aj 40 3 1 ((Av L).map (Ae)) (2*m+2) ((2*(m:Int)+1)+1) (Ae (iat (Av L) (2*m+2))) (AC e2)),pk (Ao 3 (iat (Av L) (2*m+1)) (iat (Av L) (2*m+2))),pk (Aj 40 3 1 ((Av L).map (Ae)) (2*m+1) (2*(m:Int)+1) (Ae (iat (Av L) (2*m+1))) (AC e1)),pk (Ai 3 (iat (Av L) (2*m+1)) 0),pk (Aj 40 3 1 ((Av L).map (Ae)) (2*m+1) (2*(m:Int)+1) (Ae (iat (Av L) (2*m+1))) (AC e1)),pk (Bd 3 (iat (Av L) (2*m+1)) (2*(m:Int)+1)),pk (Ao 3 ((dat (AG L) (2*m+1)).1) ((dat (AG L) (2*m+2)).1)),pk (Ao 3 ((dat (AG L) (2*m+1)).2.1) ((dat (AG L) (2*m+2)).2.1)),pk (Ai 3 ((dat (AG L) (2*m+1)).1) 0),pk (Ak 3 ((dat (AG L) (2*m+1)).2.1) 0)]
       ·by_cases p8 : (tat L (2 * m + 1)).fst = (tat L (2 * m + 1)).nxt
        ·refine ⟨fun h=>absurd h (by unfold prB;simp;omega),fun _ => ?_⟩
         exact rr [pk (Ak 3 (2*(m:Int)+1) (n:Int)),pk (Aj 110 101 3 ((AG L).map (AA)) (2*m+1) (2*(m:Int)+1) (AA (dat (AG L) (2*m+1))) (AW f1)),pk (Ay 3 (2*(m:Int)+1) 1 ⟨by omega,by omega⟩),pk (Aj 110 101 3 ((AG L).map (AA)) (2*m+2) ((2*(m:Int)+1)+1) (AA (dat (AG L) (2*m+2))) (AW f2)),pk (Aj 40 3 1 ((Av L).map (Ae)) (2*m+1) (2*(m:Int)+1) (Ae (iat (Av L) (2*m+1))) (AC e1)),pk (Ay 3 (2*(m:Int)+1) 1 ⟨by omega,by omega⟩),pk (Aj 40 3 1 ((Av L).map (Ae)) (2*m+2) ((2*(m:Int)+1)+1) (Ae (iat (Av L) (2*m+2))) (AC e2)),pk (Ao 3 (iat (Av L) (2*m+1)) (iat (Av L) (2*m+2))),pk (Aj 40 3 1 ((Av L).map (Ae)) (2*m+1) (2*(m:Int)+1) (Ae (iat (Av L) (2*m+1))) (AC e1)),pk (Ai 3 (iat (Av L) (2*m+1)) 0),pk (Aj 40 3 1 ((Av L).map (Ae)) (2*m+1) (2*(m:Int)+1) (Ae (iat (Av L) (2*m+1))) (AC e1)),pk (Bd 3 (iat (Av L) (2*m+1)) (2*(m:Int)+1)),pk (Ao 3 ((dat (AG L) (2*m+1)).1) ((dat (AG L) (2*m+2)).1)),pk (Ao 3 ((dat (AG L) (2*m+1)).2.1) ((dat (AG L) (2*m+2)).2.1)),pk (Ai 3 ((dat (AG L) (2*m+1)).1) 0),pk (Ai 3 ((dat (AG L) (2*m+1)).2.1) 0),pk (Ar 3 ((dat (AG L) (2*m+1)).1) ((dat (AG L) (2*m+1)).2.1))]
        ·cases p9:(tat L (2*m+1)).tog with
         | false =>
          have ta:=a3.trans p9;refine ⟨fun h=>absurd h (by unfold prB dcn;simp[p9]),fun _ => ?_⟩
          exact rr [pk (Ak 3 (2*(m:Int)+1) (n:Int)),pk (Aj 110 101 3 ((AG L).map (AA)) (2*m+1) (2*(m:Int)+1) ([.lit (.int .i64 ((dat (AG L) (2*m+1)).1)),.lit (.int .i64 ((dat (AG L) (2*m+1)).2.1)),.lit (.bool false)]) (YH f1 ta)),pk (Ay 3 (2*(m:Int)+1) 1 ⟨by omega,by omega⟩),pk (Aj 110 101 3 ((AG L).map (AA)) (2*m+2) ((2*(m:Int)+1)+1) (AA (dat (AG L) (2*m+2))) (AW f2)),pk (Aj 40 3 1 ((Av L).map (Ae)) (2*m+1) (2*(m:Int)+1) (Ae (iat (Av L) (2*m+1))) (AC e1)),pk (Ay 3 (2*(m:Int)+1) 1 ⟨by omega,by omega⟩),pk (Aj 40 3 1 ((Av L).map (Ae)) (2*m+2) ((2*(m:Int)+1)+1) (Ae (iat (Av L) (2*m+2))) (AC e2)),pk (Ao 3 (iat (Av L) (2*m+1)) (iat (Av L) (2*m+2))),pk (Aj 40 3 1 ((Av L).map (Ae)) (2*m+1) (2*(m:Int)+1) (Ae (iat (Av L) (2*m+1))) (AC e1)),pk (Ai 3 (iat (Av L) (2*m+1)) 0),pk (Aj 40 3 1 ((Av L).map (Ae)) (2*m+1) (2*(m:Int)+1) (Ae (iat (Av L) (2*m+1))) (AC e1)),pk (Bd 3 (iat (Av L) (2*m+1)) (2*(m:Int)+1)),pk (Ao 3 ((dat (AG L) (2*m+1)).1) ((dat (AG L) (2*m+2)).1)),pk (Ao 3 ((dat (AG L) (2*m+1)).2.1) ((dat (AG L) (2*m+2)).2.1)),pk (Ai 3 ((dat (AG L) (2*m+1)).1) 0),pk (Ai 3 ((dat (AG L) (2*m+1)).2.1) 0),pk (Ag 3 ((dat (AG L) (2*m+1)).1) ((dat (AG L) (2*m+1)).2.1)),pa]
         | true =>
          have ta:=a3.trans p9;cases p10:(tat L (2*m+2)).tog with
          | true =>
           have tb:=b3.trans p10;refine ⟨fun h=>absurd h (by unfold prB dcn;simp[p10]),fun _ => ?_⟩
           exact rr [pk (Ak 3 (2*(m:Int)+1) (n:Int)),pk (Aj 110 101 3 ((AG L).map (AA)) (2*m+1) (2*(m:Int)+1) ([.lit (.int .i64 ((dat (AG L) (2*m+1)).1)),.lit (.int .i64 ((dat (AG L) (2*m+1)).2.1)),.lit (.bool true)]) (YH f1 ta)),pk (Ay 3 (2*(m:Int)+1) 1 ⟨by omega,by omega⟩),pk (Aj 110 101 3 ((AG L).map (AA)) (2*m+2) ((2*(m:Int)+1)+1) ([.lit (.int .i64 ((dat (AG L) (2*m+2)).1)),.lit (.int .i64 ((dat (AG L) (2*m+2)).2.1)),.lit (.bool true)]) (YH f2 tb)),pk (Aj 40 3 1 ((Av L).map (Ae)) (2*m+1) (2*(m:Int)+1) (Ae (iat (Av L) (2*m+1))) (AC e1)),pk (Ay 3 (2*(m:Int)+1) 1 ⟨by omega,by omega⟩),pk (Aj 40 3 1 ((Av L).map (Ae)) (2*m+2) ((2*(m:Int)+1)+1) (Ae (iat (Av L) (2*m+2))) (AC e2)),pk (Ao 3 (iat (Av L) (2*m+1)) (iat (Av L) (2*m+2))),pk (Aj 40 3 1 ((Av L).map (Ae)) (2*m+1) (2*(m:Int)+1) (Ae (iat (Av L) (2*m+1))) (AC e1)),pk (Ai 3 (iat (Av L) (2*m+1)) 0),pk (Aj 40 3 1 ((Av L).map (Ae)) (2*m+1) (2*(m:Int)+1) (Ae (iat (Av L) (2*m+1))) (AC e1)),pk (Bd 3 (iat (Av L) (2*m+1)) (2*(m:Int)+1)),pk (Ao 3 ((dat (AG L) (2*m+1)).1) ((dat (AG L) (2*m+2)).1)),pk (Ao 3 ((dat (AG L) (2*m+1)).2.1) ((dat (AG L) (2*m+2)).2.1)),pk (Ai 3 ((dat (AG L) (2*m+1)).1) 0),pk (Ai 3 ((dat (AG L) (2*m+1)).2.1) 0),pk (Ag 3 ((dat (AG L) (2*m+1)).1) ((dat (AG L) (2*m+1)).2.1)),pa]
          | false =>
           have tb:=b3.trans p10;refine ⟨fun _ => ?_,fun h=>absurd h (by unfold prB dcn;simp[p9,p10,←p1,←p4,←p5];omega)⟩
           have r:Rnd Tryz.prog I 192 (AK Tryz.prog 114 0) (MY L n (clt L m) (2*(m:Int)+1)) .normal (MY L n (clt L (m+1)) (2*(m:Int)+1+2)):=by
            have e:clt L (m+1)=(clt L m).set (pp L m) (iat (clt L m) (pp L m)+2):=rfl;rw[e];exact Rnd.nam [] (show Rnd _ _ _ _ _ _ ⟨[(0,.t (slI 1 ((Av L).map (Ae)))),(1,.t (slI 3 ((AG L).map (AA)))),(2,.t (slI 1 ((Ca L).map (Bl)))),(7,.i (n:Int)),(8,.s 25),(9,.i ((2*(m:Int)+1)+2))],[(25,some ⟨3,some (1,n),Aa (((clt L m).set (pp L m) ((iat (clt L m) (pp L m))+2)).map Ae)⟩)],144⟩ from rr [pk (Ak 3 (2*(m:Int)+1) (n:Int)),pk (Aj 110 101 3 ((AG L).map (AA)) (2*m+1) (2*(m:Int)+1) ([.lit (.int .i64 ((dat (AG L) (2*m+1)).1)),.lit (.int .i64 ((dat (AG L) (2*m+1)).2.1)),.lit (.bool true)]) (YH f1 ta)),pk (Ay 3 (2*(m:Int)+1) 1 ⟨by omega,by omega⟩),pk (Aj 110 101 3 ((AG L).map (AA)) (2*m+2) ((2*(m:Int)+1)+1) ([.lit (.int .i64 ((dat (AG L) (2*m+2)).1)),.lit (.int .i64 ((dat (AG L) (2*m+2)).2.1)),.lit (.bool false)]) (YH f2 tb)),pk (Aj 40 3 1 ((Av L).map (Ae)) (2*m+1) (2*(m:Int)+1) (Ae (iat (Av L) (2*m+1))) (AC e1)),pk (Ay 3 (2*(m:Int)+1) 1 ⟨by omega,by omega⟩),pk (Aj 40 3 1 ((Av L).map (Ae)) (2*m+2) ((2*(m:Int)+1)+1) (Ae (iat (Av L) (2*m+2))) (AC e2)),pk (Ao 3 (iat (Av L) (2*m+1)) (iat (Av L) (2*m+2))),pk (Aj 40 3 1 ((Av L).map (Ae)) (2*m+1) (2*(m:Int)+1) (Ae (iat (Av L) (2*m+1))) (AC e1)),pk (Ai 3 (iat (Av L) (2*m+1)) 0),pk (Aj 40 3 1 ((Av L).map (Ae)) (2*m+1) (2*(m:Int)+1) (Ae (iat (Av L) (2*m+1))) (AC e1)),pk (Bd 3 (iat (Av L) (2*m+1)) (2*(m:Int)+1)),pk (Ao 3 ((dat (AG L) (2*m+1)).1) ((dat (AG L) (2*m+2)).1)),pk (Ao 3 ((dat (AG L) (2*m+1)).2.1) ((dat (AG L) (2*m+2)).2.1)),pk (Ai 3 ((dat (AG L) (2*m+1)).1) 0),pk (Ai 3 ((dat (AG L) (2*m+1)).2.1) 0),pk (Ag 3 ((dat (AG L) (2*m+1)).1) ((dat (AG L) (2*m+1)).2.1)),pa,pk (Aj 40 3 1 ((Av L).map (Ae)) (2*m+1) (2*(m:Int)+1) (Ae (iat (Av L) (2*m+1))) (AC e1)),⟨.ix (iat (Av L) (2*m+1)) (pp L m) n,⟨by omega,by omega⟩⟩,⟨.part (Aa ((clt L m).map Ae)) ((pp L m)*1) 1 [.i (iat (clt L m) (pp L m))],(Bh (D:=clt L m) cp)⟩,pk (Ay 3 (iat (clt L m) (pp L m)) 2 ⟨by omega,by omega⟩),⟨.ix (iat (Av L) (2*m+1)) (pp L m) n,⟨by omega,by omega⟩⟩,⟨.upd (Aa ((clt L m).map Ae)) ((pp L m)*1) [.i ((iat (clt L m) (pp L m))+2)] (Aa (((clt L m).set (pp L m) ((iat (clt L m) (pp L m))+2)).map Ae)),(BW (D:=clt L m) cp ((iat (clt L m) (pp L m))+2))⟩,pk (Ay 3 (2*(m:Int)+1) 2 ⟨by omega,by omega⟩)]) (t:=⟨[(0,.t (slI 1 ((Av L).map (Ae)))),(1,.t (slI 3 ((AG L).map (AA)))),(2,.t (slI 1 ((Ca L).map (Bl)))),(7,.i (n:Int)),(8,.s 25),(9,.i ((2*(m:Int)+1)+2))],[(25,some ⟨3,some (1,n),Aa (((clt L m).set (pp L m) ((iat (clt L m) (pp L m))+2)).map Ae)⟩)],50⟩) ⟨rfl,TVle.refl,rfl,TVle.refl,rfl,TVle.refl,rfl,TVle.refl,rfl,TVle.refl,rfl,TVle.refl,trivial⟩ ⟨rfl,rfl,rfl,ILe.refl,trivial⟩
           rw[show 2*(m:Int)+1+2=2*((m+1:Nat):Int)+1 by omega] at r
           exact r
     ·refine ⟨fun h=>absurd h (by unfold prB dcn;simp;omega),fun _ => ?_⟩
      exact rr [pk (Ak 3 (2*(m:Int)+1) (n:Int)),pk (Aj 110 101 3 ((AG L).map (AA)) (2*m+1) (2*(m:Int)+1) (AA (dat (AG L) (2*m+1))) (AW f1)),pk (Ay 3 (2*(m:Int)+1) 1 ⟨by omega,by omega⟩),pk (Aj 110 101 3 ((AG L).map (AA)) (2*m+2) ((2*(m:Int)+1)+1) (AA (dat (AG L) (2*m+2))) (AW f2)),pk (Aj 40 3 1 ((Av L).map (Ae)) (2*m+1) (2*(m:Int)+1) (Ae (iat (Av L) (2*m+1))) (AC e1)),pk (Ay 3 (2*(m:Int)+1) 1 ⟨by omega,by omega⟩),pk (Aj 40 3 1 ((Av L).map (Ae)) (2*m+2) ((2*(m:Int)+1)+1) (Ae (iat (Av L) (2*m+2))) (AC e2)),pk (Ao 3 (iat (Av L) (2*m+1)) (iat (Av L) (2*m+2))),pk (Aj 40 3 1 ((Av L).map (Ae)) (2*m+1) (2*(m:Int)+1) (Ae (iat (Av L) (2*m+1))) (AC e1)),pk (Ai 3 (iat (Av L) (2*m+1)) 0),pk (Aj 40 3 1 ((Av L).map (Ae)) (2*m+1) (2*(m:Int)+1) (Ae (iat (Av L) (2*m+1))) (AC e1)),pk (Bd 3 (iat (Av L) (2*m+1)) (2*(m:Int)+1)),pk (Ao 3 ((dat (AG L) (2*m+1)).1) ((dat (AG L) (2*m+2)).1)),pk (AI 3 ((dat (AG L) (2*m+1)).2.1) ((dat (AG L) (2*m+2)).2.1))]
    ·refine ⟨fun h=>absurd h (by unfold prB dcn;simp;omega),fun _ => ?_⟩
     exact rr [pk (Ak 3 (2*(m:Int)+1) (n:Int)),pk (Aj 110 101 3 ((AG L).map (AA)) (2*m+1) (2*(m:Int)+1) (AA (dat (AG L) (2*m+1))) (AW f1)),pk (Ay 3 (2*(m:Int)+1) 1 ⟨by omega,by omega⟩),pk (Aj 110 101 3 ((AG L).map (AA)) (2*m+2) ((2*(m:Int)+1)+1) (AA (dat (AG L) (2*m+2))) (AW f2)),pk (Aj 40 3 1 ((Av L).map (Ae)) (2*m+1) (2*(m:Int)+1) (Ae (iat (Av L) (2*m+1))) (AC e1)),pk (Ay 3 (2*(m:Int)+1) 1 ⟨by omega,by omega⟩),pk (Aj 40 3 1 ((Av L).map (Ae)) (2*m+2) ((2*(m:Int)+1)+1) (Ae (iat (Av L) (2*m+2))) (AC e2)),pk (Ao 3 (iat (Av L) (2*m+1)) (iat (Av L) (2*m+2))),pk (Aj 40 3 1 ((Av L).map (Ae)) (2*m+1) (2*(m:Int)+1) (Ae (iat (Av L) (2*m+1))) (AC e1)),pk (Ai 3 (iat (Av L) (2*m+1)) 0),pk (Aj 40 3 1 ((Av L).map (Ae)) (2*m+1) (2*(m:Int)+1) (Ae (iat (Av L) (2*m+1))) (AC e1)),pk (Bd 3 (iat (Av L) (2*m+1)) (2*(m:Int)+1)),pk (AI 3 ((dat (AG L) (2*m+1)).1) ((dat (AG L) (2*m+2)).1))]
 ·refine ⟨fun h=>absurd h (by unfold prB;simp[p1]),fun _ => ?_⟩
  exact rr [pk (Ak 3 (2*(m:Int)+1) (n:Int)),pk (Aj 110 101 3 ((AG L).map (AA)) (2*m+1) (2*(m:Int)+1) (AA (dat (AG L) (2*m+1))) (AW f1)),pk (Ay 3 (2*(m:Int)+1) 1 ⟨by omega,by omega⟩),pk (Aj 110 101 3 ((AG L).map (AA)) (2*m+2) ((2*(m:Int)+1)+1) (AA (dat (AG L) (2*m+2))) (AW f2)),pk (Aj 40 3 1 ((Av L).map (Ae)) (2*m+1) (2*(m:Int)+1) (Ae (iat (Av L) (2*m+1))) (AC e1)),pk (Ay 3 (2*(m:Int)+1) 1 ⟨by omega,by omega⟩),pk (Aj 40 3 1 ((Av L).map (Ae)) (2*m+2) ((2*(m:Int)+1)+1) (Ae (iat (Av L) (2*m+2))) (AC e2)),pk (AI 3 (iat (Av L) (2*m+1)) (iat (Av L) (2*m+2)))]
end
def QF (D:List De)(k j:Nat):Bool:=decide ((dat D k).1=(dat D j).1)&&decide ((dat D k).2.1=(dat D j).2.1)
def inC (D:List De)(k j:Nat):Int:=if QF D k j then 1 else 0
def miC (D:List De)(k:Nat):Int:=AQ (inC D k) k 0
def cpC (L:List Nd)(i:Nat):Int:=if 2 < iat (clt L (L.length / 2)) i then 1 else if decide ((tat L i).st=1)=decide (iat (clt L (L.length / 2)) i=2) then 0 else 1
def ouC (L:List Nd)(i:Nat):Int:=if cpC L i≠0 then cpC L i else if 32 < (Ba L i).length then 1 else AQ (miC (Ba L i)) (Ba L i).length 0
section
variable {I:WInv}{c c':Bool}
def AcF (L:List Nd)(n:Nat)(i:Nat)(D:List De)(k:Nat)(j:Int):Go.Proofs.YtdgbealknnmkoaaGreatDoor.St:=⟨[(0,.t (slI 1 ((Av L).map (Ae)))),(1,.t (slI 3 ((AG L).map (AA)))),(2,.t (slI 1 ((Ca L).map (Bl)))),(7,.i (n:Int)),(8,.t (slI 1 ((clt L (L.length / 2)).map (Ae)))),(12,.i (i:Int)),(13,.t (slI 3 ((D).map (AA)))),(14,.i (k:Int)),(15,.i j)],[],130⟩
def Ad9 (L:List Nd)(n:Nat)(i:Nat)(D:List De)(k:Nat):Go.Proofs.YtdgbealknnmkoaaGreatDoor.St:=⟨[(0,.t (slI 1 ((Av L).map (Ae)))),(1,.t (slI 3 ((AG L).map (AA)))),(2,.t (slI 1 ((Ca L).map (Bl)))),(7,.i (n:Int)),(8,.t (slI 1 ((clt L (L.length / 2)).map (Ae)))),(12,.i (i:Int)),(13,.t (slI 3 ((D).map (AA)))),(14,.i (k:Int))],[],130⟩
theorem AaA {D:List De}{k j:Nat}(h:inC D k j≠0):QF D k j=true:=by
 unfold inC at h;cases hs:QF D k j with
 | true=>rfl
 | false=>rw[hs] at h;exact absurd rfl h
theorem Yx {D:List De}{k j:Nat}(h:inC D k j=0):QF D k j=false:=by
 unfold inC at h;cases hs:QF D k j with
 | false=>rfl
 | true=>rw[hs] at h;exact absurd h (by decide)
theorem U7 (L:List Nd)(n:Nat)(i:Nat)(D:List De)(k:Nat)(hk:k < D.length)(hl:D.length≤100000) :
  (miC D k=0→LoopTr Tryz.prog I 192 (AK Tryz.prog 114 3) (AcF L n i D k ((0:Nat):Int)) (.exit 6) (Ad9 L n i D k))∧(miC D k≠0→LoopTr Tryz.prog I 192 (AK Tryz.prog 114 3) (AcF L n i D k ((0:Nat):Int)) .ret (Rm 130)):=by
 refine CM (inC D k) k (fun j=>AcF L n i D k (j:Int)) (fun _=>Rm 130) (fun j hj hc => ?_) ?_ (fun j hj hc => ?_)
 ·have hs:=Yx hc
  unfold QF at hs;have hj':j < D.length:=by omega
  by_cases h1:(dat D k).1=(dat D j).1
  ·by_cases h2:(dat D k).2.1=(dat D j).2.1
   ·rw[decide_eq_true h1,decide_eq_true h2] at hs;cases hs
   ·have hj:=hj'
    exact rr [pk (Ak 3 (j:Int) (k:Int)),pk (Aj 110 101 3 ((D).map (AA)) k (k:Int) (AA (dat D k)) (AW hk)),pk (Aj 110 101 3 ((D).map (AA)) j (j:Int) (AA (dat D j)) (AW hj)),pk (AO 3 ((dat D k).1) ((dat D j).1) true (decide_eq_true h1)),pk (Aj 110 101 3 ((D).map (AA)) k (k:Int) (AA (dat D k)) (AW hk)),pk (Aj 110 101 3 ((D).map (AA)) j (j:Int) (AA (dat D j)) (AW hj)),pk (AO 3 ((dat D k).2.1) ((dat D j).2.1) false (decide_eq_false h2)),pk (Ay 3 (j:Int) 1 ⟨by omega,by omega⟩)]
  ·have hj:=hj'
   exact rr [pk (Ak 3 (j:Int) (k:Int)),pk (Aj 110 101 3 ((D).map (AA)) k (k:Int) (AA (dat D k)) (AW hk)),pk (Aj 110 101 3 ((D).map (AA)) j (j:Int) (AA (dat D j)) (AW hj)),pk (AO 3 ((dat D k).1) ((dat D j).1) false (decide_eq_false h1)),pk (Ay 3 (j:Int) 1 ⟨by omega,by omega⟩)]
 ·exact rr [pk (Ai 3 (k:Int) (k:Int))]
 ·have hs:=AaA hc
  unfold QF at hs;rw[Bool.and_eq_true,decide_eq_true_eq,decide_eq_true_eq] at hs;obtain ⟨h1,h2⟩:=hs;have hj':j < D.length:=by omega
  have hj:=hj';exact rr [pk (Ak 3 (j:Int) (k:Int)),pk (Aj 110 101 3 ((D).map (AA)) k (k:Int) (AA (dat D k)) (AW hk)),pk (Aj 110 101 3 ((D).map (AA)) j (j:Int) (AA (dat D j)) (AW hj)),pk (AO 3 ((dat D k).1) ((dat D j).1) true (decide_eq_true h1)),pk (Aj 110 101 3 ((D).map (AA)) k (k:Int) (AA (dat D k)) (AW hk)),pk (Aj 110 101 3 ((D).map (AA)) j (j:Int) (AA (dat D j)) (AW hj)),pk (AO 3 ((dat D k).2.1) ((dat D j).2.1) true (decide_eq_true h2))]
def AcA (L:List Nd)(n:Nat)(i:Nat)(D:List De)(k:Int):Go.Proofs.YtdgbealknnmkoaaGreatDoor.St:=⟨[(0,.t (slI 1 ((Av L).map (Ae)))),(1,.t (slI 3 ((AG L).map (AA)))),(2,.t (slI 1 ((Ca L).map (Bl)))),(7,.i (n:Int)),(8,.t (slI 1 ((clt L (L.length / 2)).map (Ae)))),(12,.i (i:Int)),(13,.t (slI 3 ((D).map (AA)))),(14,.i k)],[],90⟩
def Ad5 (L:List Nd)(n:Nat)(i:Nat)(D:List De):Go.Proofs.YtdgbealknnmkoaaGreatDoor.St:=⟨[(0,.t (slI 1 ((Av L).map (Ae)))),(1,.t (slI 3 ((AG L).map (AA)))),(2,.t (slI 1 ((Ca L).map (Bl)))),(7,.i (n:Int)),(8,.t (slI 1 ((clt L (L.length / 2)).map (Ae)))),(12,.i (i:Int)),(13,.t (slI 3 ((D).map (AA))))],[],90⟩
theorem U3 (L:List Nd)(n:Nat)(i:Nat)(D:List De)(hl:D.length≤100000) :
  (AQ (miC D) D.length 0=0→LoopTr Tryz.prog I 192 (AK Tryz.prog 114 2) (AcA L n i D ((0:Nat):Int)) (.exit 4) (Ad5 L n i D))∧(AQ (miC D) D.length 0≠0→LoopTr Tryz.prog I 192 (AK Tryz.prog 114 2) (AcA L n i D ((0:Nat):Int)) .ret (Rm 130)):=by
 refine CM (miC D) D.length (fun k=>AcA L n i D (k:Int)) (fun _=>Rm 130) (fun k hk hc => ?_) ?_ (fun k hk hc => ?_)
 ·have lo:=(U7 (I:=I) L n i D k hk hl).1 hc
  exact rr [pk (Al 110 101 3 3 ((D).map (AA)) ((D).length:Int)),pk (Ak 3 (k:Int) ((D).length:Int)),pl (lo),pk (Ay 3 (k:Int) 1 ⟨by omega,by omega⟩)]
 ·exact rr [pk (Al 110 101 3 3 ((D).map (AA)) ((D).length:Int)),pk (Ai 3 (D.length:Int) ((D).length:Int))]
 ·have lo:=(U7 (I:=I) L n i D k hk hl).2 hc
  exact rr [pk (Al 110 101 3 3 ((D).map (AA)) ((D).length:Int)),pk (Ak 3 (k:Int) ((D).length:Int)),pl (lo)]
def Aas (L:List Nd)(n:Nat)(i:Int):Go.Proofs.YtdgbealknnmkoaaGreatDoor.St:=⟨[(0,.t (slI 1 ((Av L).map (Ae)))),(1,.t (slI 3 ((AG L).map (AA)))),(2,.t (slI 1 ((Ca L).map (Bl)))),(7,.i (n:Int)),(8,.t (slI 1 ((clt L (L.length / 2)).map (Ae)))),(12,.i i)],[],50⟩
theorem Aat (L : List Nd) (n : Nat) (hn : L.length = n) (hl : n ≤ 2002) (hD : Dn L (L.length - 1)) :
  (AQ (ouC L) n 0=0→LoopTr Tryz.prog I 192 (AK Tryz.prog 114 1) (Aas L n ((0:Nat):Int)) (.exit 2) ⟨[],[],50⟩)∧(AQ (ouC L) n 0≠0→LoopTr Tryz.prog I 192 (AK Tryz.prog 114 1) (Aas L n ((0:Nat):Int)) .ret (Rm 130)):=by
 have pre : ∀ i,i < n→Sp Tryz.prog I 76 [Rs L,Sg L,ci (i:Int)] (tit (deI (Ba L i))):=fun i hi=>MN L (by omega) i (by omega) fun x h0 hx=>hD x h0 (by omega)
 have plen : ∀ i,(Ba L i).length≤i:=Ho L;refine CM (ouC L) n (fun i=>Aas L n (i:Int)) (fun _=>Rm 130) (fun i hi hc => ?_) ?_ (fun i hi hc => ?_)
 ·have ec : i < (clt L (L.length / 2)).length := by rw [Ew]; omega
  have es:i < (Ca L).length:=by rw[G4];omega
  have hp:=pre i hi;have hlen:=plen i;unfold ouC at hc;by_cases k0:cpC L i=0
  ·rw [if_neg (fun h => h k0)] at hc
   by_cases k3:32 < (Ba L i).length
   ·rw[if_pos k3] at hc;omega
   ·rw[if_neg k3] at hc
    have lo:=(U3 (I:=I) L n i (Ba L i) (by omega)).1 hc
    unfold cpC at k0;generalize Ba L i=D at *;by_cases k1:2 < iat (clt L (L.length / 2)) i
    ·rw[if_pos k1] at k0;omega
    ·rw[if_neg k1] at k0
     by_cases hc:iat (clt L (L.length / 2)) i=2
     ·rw[decide_eq_true hc] at k0
      cases hs:decide ((tat L i).st=1) with
      | true =>
       have hst:=(FP (L:=L) (i:=i) (by omega)).trans hs
       exact rr [pk (Ak 3 (i:Int) (n:Int)),pk (Aj 40 3 1 ((clt L (L.length / 2)).map (Ae)) i (i:Int) (Ae (iat (clt L (L.length / 2)) i)) (AC ec)),pk (Au 3 (iat (clt L (L.length / 2)) i) 2),pk (Aj 111 4 1 ((Ca L).map (Bl)) i (i:Int) ([.lit (.bool true)]) (Lo es hst)),pk (Aj 40 3 1 ((clt L (L.length / 2)).map (Ae)) i (i:Int) (Ae (iat (clt L (L.length / 2)) i)) (AC ec)),pk (AO 3 (iat (clt L (L.length / 2)) i) 2 true (decide_eq_true hc)),pa,po (hp),pk (Al 110 101 3 3 ((D).map (AA)) ((D).length:Int)),pk (Au 3 ((D).length:Int) 32),pl (lo),pk (Ay 3 (i:Int) 1 ⟨by omega,by omega⟩)]
      | false=>rw[hs] at k0;simp at k0
     ·rw[decide_eq_false hc] at k0
      cases hs:decide ((tat L i).st=1) with
      | true=>rw[hs] at k0;simp at k0
      | false =>
       have hst:=(FP (L:=L) (i:=i) (by omega)).trans hs
       exact rr [pk (Ak 3 (i:Int) (n:Int)),pk (Aj 40 3 1 ((clt L (L.length / 2)).map (Ae)) i (i:Int) (Ae (iat (clt L (L.length / 2)) i)) (AC ec)),pk (Au 3 (iat (clt L (L.length / 2)) i) 2),pk (Aj 111 4 1 ((Ca L).map (Bl)) i (i:Int) ([.lit (.bool false)]) (Lo es hst)),pk (Aj 40 3 1 ((clt L (L.length / 2)).map (Ae)) i (i:Int) (Ae (iat (clt L (L.length / 2)) i)) (AC ec)),pk (AO 3 (iat (clt L (L.length / 2)) i) 2 false (decide_eq_false hc)),pa,po (hp),pk (Al 110 101 3 3 ((D).map (AA)) ((D).length:Int)),pk (Au 3 ((D).length:Int) 32),pl (lo),pk (Ay 3 (i:Int) 1 ⟨by omega,by omega⟩)]
  ·rw[if_pos k0] at hc;exact absurd hc k0
 ·exact rr [pk (Ai 3 (n:Int) (n:Int))]
 ·have ec : i < (clt L (L.length / 2)).length := by rw [Ew]; omega
  have es:i < (Ca L).length:=by rw[G4];omega
  have hp:=pre i hi;have hlen:=plen i;unfold ouC at hc;have lm:=U3 (I:=I) L n i (Ba L i) (by omega)
  generalize Ba L i=D at *;by_cases k1:2 < iat (clt L (L.length / 2)) i
  ·exact rr [pk (Ak 3 (i:Int) (n:Int)),pk (Aj 40 3 1 ((clt L (L.length / 2)).map (Ae)) i (i:Int) (Ae (iat (clt L (L.length / 2)) i)) (AC ec)),pk (BY 3 (iat (clt L (L.length / 2)) i) 2)]
  ·have kc:cpC L i=if decide ((tat L i).st=1)=decide (iat (clt L (L.length / 2)) i=2) then 0 else 1:=by unfold cpC;rw[if_neg k1]
   rw[kc] at hc;by_cases hc2:iat (clt L (L.length / 2)) i=2
   ·rw[decide_eq_true hc2] at hc
    have hcc:=hc;cases hs:decide ((tat L i).st=1) with
    | true =>
     have hst:=(FP (L:=L) (i:=i) (by omega)).trans hs
     rw[hs] at hc;simp only[if_true,ne_eq,not_true,if_false] at hc;by_cases k3:32 < D.length
     ·have hc:=hc2
      exact rr [pk (Ak 3 (i:Int) (n:Int)),pk (Aj 40 3 1 ((clt L (L.length / 2)).map (Ae)) i (i:Int) (Ae (iat (clt L (L.length / 2)) i)) (AC ec)),pk (Au 3 (iat (clt L (L.length / 2)) i) 2),pk (Aj 111 4 1 ((Ca L).map (Bl)) i (i:Int) ([.lit (.bool true)]) (Lo es hst)),pk (Aj 40 3 1 ((clt L (L.length / 2)).map (Ae)) i (i:Int) (Ae (iat (clt L (L.length / 2)) i)) (AC ec)),pk (AO 3 (iat (clt L (L.length / 2)) i) 2 true (decide_eq_true hc)),pa,po (hp),pk (Al 110 101 3 3 ((D).map (AA)) ((D).length:Int)),pk (BY 3 ((D).length:Int) 32)]
     ·rw[if_neg k3] at hc
      have lo:=lm.2 hc;have hc:=hc2;exact rr [pk (Ak 3 (i:Int) (n:Int)),pk (Aj 40 3 1 ((clt L (L.length / 2)).map (Ae)) i (i:Int) (Ae (iat (clt L (L.length / 2)) i)) (AC ec)),pk (Au 3 (iat (clt L (L.length / 2)) i) 2),pk (Aj 111 4 1 ((Ca L).map (Bl)) i (i:Int) ([.lit (.bool true)]) (Lo es hst)),pk (Aj 40 3 1 ((clt L (L.length / 2)).map (Ae)) i (i:Int) (Ae (iat (clt L (L.length / 2)) i)) (AC ec)),pk (AO 3 (iat (clt L (L.length / 2)) i) 2 true (decide_eq_true hc)),pa,po (hp),pk (Al 110 101 3 3 ((D).map (AA)) ((D).length:Int)),pk (Au 3 ((D).length:Int) 32),pl (lo)]
    | false =>
     have hst:=(FP (L:=L) (i:=i) (by omega)).trans hs
     have hc:=hc2;exact rr [pk (Ak 3 (i:Int) (n:Int)),pk (Aj 40 3 1 ((clt L (L.length / 2)).map (Ae)) i (i:Int) (Ae (iat (clt L (L.length / 2)) i)) (AC ec)),pk (Au 3 (iat (clt L (L.length / 2)) i) 2),pk (Aj 111 4 1 ((Ca L).map (Bl)) i (i:Int) ([.lit (.bool false)]) (Lo es hst)),pk (Aj 40 3 1 ((clt L (L.length / 2)).map (Ae)) i (i:Int) (Ae (iat (clt L (L.length / 2)) i)) (AC ec)),pk (AO 3 (iat (clt L (L.length / 2)) i) 2 true (decide_eq_true hc)),pa]
   ·rw[decide_eq_false hc2] at hc
    cases hs:decide ((tat L i).st=1) with
    | true =>
     have hst:=(FP (L:=L) (i:=i) (by omega)).trans hs
     have hc:=hc2;exact rr [pk (Ak 3 (i:Int) (n:Int)),pk (Aj 40 3 1 ((clt L (L.length / 2)).map (Ae)) i (i:Int) (Ae (iat (clt L (L.length / 2)) i)) (AC ec)),pk (Au 3 (iat (clt L (L.length / 2)) i) 2),pk (Aj 111 4 1 ((Ca L).map (Bl)) i (i:Int) ([.lit (.bool true)]) (Lo es hst)),pk (Aj 40 3 1 ((clt L (L.length / 2)).map (Ae)) i (i:Int) (Ae (iat (clt L (L.length / 2)) i)) (AC ec)),pk (AO 3 (iat (clt L (L.length / 2)) i) 2 false (decide_eq_false hc)),pa]
    | false =>
     have hst:=(FP (L:=L) (i:=i) (by omega)).trans hs
     rw[hs] at hc;simp only[if_true,ne_eq,not_true,if_false] at hc;by_cases k3:32 < D.length
     ·have hc:=hc2
      exact rr [pk (Ak 3 (i:Int) (n:Int)),pk (Aj 40 3 1 ((clt L (L.length / 2)).map (Ae)) i (i:Int) (Ae (iat (clt L (L.length / 2)) i)) (AC ec)),pk (Au 3 (iat (clt L (L.length / 2)) i) 2),pk (Aj 111 4 1 ((Ca L).map (Bl)) i (i:Int) ([.lit (.bool false)]) (Lo es hst)),pk (Aj 40 3 1 ((clt L (L.length / 2)).map (Ae)) i (i:Int) (Ae (iat (clt L (L.length / 2)) i)) (AC ec)),pk (AO 3 (iat (clt L (L.length / 2)) i) 2 false (decide_eq_false hc)),pa,po (hp),pk (Al 110 101 3 3 ((D).map (AA)) ((D).length:Int)),pk (BY 3 ((D).length:Int) 32)]
     ·rw[if_neg k3] at hc
      have lo:=lm.2 hc;have hc:=hc2;exact rr [pk (Ak 3 (i:Int) (n:Int)),pk (Aj 40 3 1 ((clt L (L.length / 2)).map (Ae)) i (i:Int) (Ae (iat (clt L (L.length / 2)) i)) (AC ec)),pk (Au 3 (iat (clt L (L.length / 2)) i) 2),pk (Aj 111 4 1 ((Ca L).map (Bl)) i (i:Int) ([.lit (.bool false)]) (Lo es hst)),pk (Aj 40 3 1 ((clt L (L.length / 2)).map (Ae)) i (i:Int) (Ae (iat (clt L (L.length / 2)) i)) (AC ec)),pk (AO 3 (iat (clt L (L.length / 2)) i) 2 false (decide_eq_false hc)),pa,po (hp),pk (Al 110 101 3 3 ((D).map (AA)) ((D).length:Int)),pk (Au 3 ((D).length:Int) 32),pl (lo)]
end
end Go.Proofs.YtdgbealknnmkoaaGreatDoor
