/- Texts of one proof, put together by a program: each lemma is proved for all values of its variables, under the premises that it states. -/
import Derived.Test.YtdgbealknnmkoaaGreatDoorP4bcfbf96
import Derived.Test.YtdgbealknnmkoaaGreatDoorP1e91e77a
set_option linter.unusedVariables false
set_option linter.unusedSimpArgs false
namespace Go.Proofs.YtdgbealknnmkoaaGreatDoor
open Go Go.RowKit
structure Lq (q:Rat) (k:Nat):Prop where
 n:Lim k q.num
 d:Lim k (q.den:Int)
 k0:0 < k
theorem Fk.lq {q1 q2:IntP}{n d:Int}{k:Nat}(h:Fk q1 q2 n d k):Lq (Rat.divInt n d) k:=⟨(AaW h).1,(AaW h).2,h.k0⟩
theorem Lq.neg {p:Rat}{k:Nat}(h:Lq p k):Lq (-p) k:=⟨by rw[Rat.neg_num];exact h.n.neg,by rw[Rat.neg_den];exact h.d,h.k0⟩
theorem Lq.int {z:Int}{k:Nat}(h:Lim k z)(k0:0 < k):Lq (z:Rat) k:=⟨h,Ee k0,k0⟩
abbrev Fg:=Dg×Dg
abbrev vn (p:Fg):Int:=sgn p.1.1 (val p.1.2)
abbrev vd (p:Fg):Int:=sgn p.2.1 (val p.2.2)
abbrev frl (p:Fg):List It:=dsl p.1.1 p.1.2++dsl p.2.1 p.2.2
abbrev vq (p:Fg):Rat:=Rat.divInt (vn p) (vd p)
abbrev W2 (p:Fg):Prop:=W32 p.1.2∧W32 p.2.2
abbrev Mem (p:Fg):Prop:=p.1.2.length≤35184372087808∧p.2.2.length≤35184372087808
abbrev tS (xs:List Nat):TV:=BF (.string (AM xs))
abbrev cS (xs:List Nat):CT := .one (.b (.lit (.string (AM xs))))
abbrev cu (x:Nat):CT := .one (.b (.lit (.int .u8 (x:Int))))
def B8 (xs:List Nat):Prop := ∀ x∈xs,x < 256
theorem B8.app {xs ys:List Nat}(h:B8 xs)(h':B8 ys):B8 (xs++ys):=fun x hx=>(List.mem_append.1 hx).elim (h x) (h' x)
theorem B8.take {xs:List Nat}(h:B8 xs)(n:Nat):B8 (xs.take n):=fun x hx=>h x (List.mem_of_mem_take hx)
theorem B8.drop {xs:List Nat}(h:B8 xs)(n:Nat):B8 (xs.drop n):=fun x hx=>h x (List.mem_of_mem_drop hx)
theorem B8.getD {xs:List Nat}(h:B8 xs)(i:Nat):xs.getD i 0 < 256:=by
 rw[List.getD_eq_getElem?_getD];cases hx:xs[i]? with
 | none=>simp
 | some x=>exact h x (List.mem_of_getElem? hx)
theorem B8.bo {xs:List Nat}(h:B8 xs):bytesOf (AM xs)=xs:=Fm xs h
theorem Cc (xs:List Nat):(AM xs).data.toList=xs.map UInt8.ofNat:=by simp[AM]
theorem RO (xs:List Nat)(n:Nat):(AM xs).extract 0 n=AM (xs.take n):=by
 rw[Lib.extract_eq,Cc];simp[AM,List.map_take]
theorem RP (xs:List Nat)(n:Nat):(AM xs).extract n xs.length=AM (xs.drop n):=by
 rw[Lib.extract_eq,Cc];simp only[AM,List.drop_zero,Nat.sub_zero,List.map_drop];rw[List.take_of_length_le (by simp)]
theorem Sn {a b:Nat}(ha:a < 256)(hb:b < 256):UInt8.ofNat a=UInt8.ofNat b↔a=b:=by
 constructor
 ·intro h
  have h:=congrArg UInt8.toNat h;simp only[UInt8.toNat_ofNat'] at h;omega
 ·intro h;rw[h]
theorem NB {xs ys:List Nat}(hx:B8 xs)(hy:B8 ys):AM xs=AM ys↔xs=ys:=by
 constructor
 ·intro h
  have:=congrArg bytesOf h
  rwa [hx.bo,hy.bo] at this
 ·intro h;rw[h]
theorem LT {a b:ByteArray}:a.toList=b.toList↔a=b:=by
 constructor
 ·intro h
  rw[ByteArray.toList_eq,ByteArray.toList_eq] at h;exact ByteArray.ext (Array.ext' h)
 ·intro h;rw[h]
def CU (c:Nat):List Nat→Option Nat
 | []=>none
 | x::l=>if x=c then some 0 else (CU c l).map (· + 1)
theorem GX {c:Nat} : ∀ {xs:List Nat} {i:Nat},CU c xs=some i→i < xs.length∧xs.getD i 0=c ∧ ∀ j,j < i→xs.getD j 0≠c
 | [],i,h=>by cases h
 | x::l,i,h=>by
  unfold CU at h;by_cases hx:x=c
  ·rw[if_pos hx] at h
   injection h with h;subst h;exact ⟨by simp,by simpa using hx,fun j hj=>by omega⟩
  ·rw[if_neg hx] at h
   obtain ⟨k,hk,rfl⟩:=Option.map_eq_some_iff.1 h;obtain ⟨h1,h2,h3⟩:=GX hk;refine ⟨by simp;omega,by simpa using h2,fun j hj => ?_⟩
   cases j with
   | zero=>simpa using hx
   | succ j=>simpa using h3 j (by omega)
theorem NZ {c:Nat} : ∀ {xs:List Nat},CU c xs=none → ∀ j,j < xs.length→xs.getD j 0≠c
 | [],h,j,hj=>by simp at hj
 | x::l,h,j,hj=>by
  unfold CU at h;by_cases hx:x=c
  ·rw[if_pos hx] at h;cases h
  ·rw[if_neg hx,Option.map_eq_none_iff] at h
   cases j with
   | zero=>simpa using hx
   | succ j=>simpa using NZ h j (by simpa using hj)
theorem QX {c:Nat} : ∀ {xs ys:List Nat},(∀ x∈xs,x≠c)→CU c (xs++c::ys)=some xs.length
 | [],ys,h=>by simp[CU]
 | x::l,ys,h=>by
  have hx:=h x (by simp)
  rw[List.cons_append,CU,if_neg hx,QX fun y hy=>h y (by simp[hy])]
  rfl
theorem Pt {c:Nat} : ∀ {xs:List Nat},(∀ x∈xs,x≠c)→CU c xs=none
 | [],h=>rfl
 | x::l,h=>by
  rw[CU,if_neg (h x (by simp)),Pt fun y hy=>h y (by simp[hy])]
  rfl
theorem M5 {c:Nat}(hc:c < 256) : ∀ {xs:List Nat},B8 xs→Lib.index (xs.map UInt8.ofNat) [UInt8.ofNat c]=match CU c xs with | some i=>(i:Int) | none => -1
 | [],h=>rfl
 | x::l,h=>by
  have ih:=M5 hc (xs:=l) fun y hy=>h y (by simp[hy])
  rw[Lib.index_one] at ih ⊢;simp only[List.map_cons,Lib.indexByte];unfold CU;by_cases hx:x=c
  ·subst hx;simp
  ·have:(UInt8.ofNat x == UInt8.ofNat c)=false:=by
    rw[beq_eq_false_iff_ne];exact fun h'=>hx ((Sn (h x (by simp)) hc).1 h')
   rw[this,if_neg hx];rw[ih];cases CU c l with
   | none=>simp
   | some i =>
    simp only[Option.map_some];have:((i:Int) == -1)=false:=by rw[beq_eq_false_iff_ne];omega
    simp[this]
section
variable {P:Program}
theorem Bf (t ty:TypeId)(xs:List Nat)(ht:P.underlying t=some .string:=by kernel_rfl):Be P (.len #[t] ty) [tS xs] (li xs.length):=By (vs:=[.string (AM xs)]) fun w=>by
 simp[OpK.run,Builtin.len_,AL ht,goInt,BB]
theorem Gs (t:TypeId)(xs ys:List Nat)(h:xs.length+ys.length≤9223372036854775807):Be P (.bin .add t) [tS xs,tS ys] (tS (xs++ys)):=by
 have:=AcH (P:=P) t (AM xs) (AM ys) (by rw[BB,BB];exact h)
 rw[←OH] at this;exact this
theorem Tl (t:TypeId)(xs:List Nat)(n:Nat)(z:Int)(hz:z=(n:Int))(hn:n≤xs.length)(ht:P.underlying t=some .string:=by kernel_rfl):Be P (.slc t false true false) [tS xs,li z] (tS (xs.take n)):=By (vs:=[.string (AM xs),.int .i64 z]) fun w=>by
 subst hz;simp[OpK.run,Instr.sliceAt,Instr.slice,Instr.sliceBounds,Instr.sliceBound,asIntOf,AL ht,BB,hn,RO]
theorem Zp (t:TypeId)(xs:List Nat)(n:Nat)(z:Int)(hz:z=(n:Int))(hn:n≤xs.length)(ht:P.underlying t=some .string:=by kernel_rfl):Be P (.slc t true false false) [tS xs,li z] (tS (xs.drop n)):=By (vs:=[.string (AM xs),.int .i64 z]) fun w=>by
 subst hz;simp[OpK.run,Instr.sliceAt,Instr.slice,Instr.sliceBounds,Instr.sliceBound,asIntOf,AL ht,BB,hn,RP]
theorem Dv (t:TypeId)(xs:List Nat)(i:Nat)(z:Int)(hz:z=(i:Int))(hi:i < xs.length)(hx:B8 xs)(ht:P.underlying t=some .string:=by kernel_rfl):Be P (.idx t) [tS xs,li z] (BF (.int .u8 ((xs.getD i 0:Nat):Int))):=By (vs:=[.string (AM xs),.int .i64 z]) fun w=>by
 subst hz;have e:(AM xs)[i]? = some (UInt8.ofNat (xs.getD i 0)):=by
  show (AM xs).data[i]? = _;rw[←Array.getElem?_toList,Cc,List.getElem?_map,List.getD_eq_getElem?_getD,List.getElem?_eq_getElem hi]
  rfl
 have hb:=hx.getD i;generalize xs.getD i 0=a at *;simp[OpK.run,Instr.index,asIntOf,AL ht,e];omega
theorem RN (t:TypeId)(xs ys:List Nat)(b:Bool)(h:decide (xs=ys)=b)(hx:B8 xs)(hy:B8 ys):Be P (.bin .eql t) [tS xs,tS ys] (lb b):=AcG t _ _ b (by
 subst h;by_cases h:xs=ys
 ·subst h;simp
 ·rw[decide_eq_false h,beq_eq_false_iff_ne]
  exact fun h'=>h ((NB hx hy).1 (LT.1 h')))
theorem Kq (t:TypeId)(xs ys:List Nat)(b:Bool)(h:decide (xs=ys) = !b)(hx:B8 xs)(hy:B8 ys):Be P (.bin .neq t) [tS xs,tS ys] (lb b):=AcF t _ _ b (by
 rw[←h];by_cases h:xs=ys
 ·subst h;simp
 ·rw[decide_eq_false h,beq_eq_false_iff_ne]
  exact fun h'=>h ((NB hx hy).1 (LT.1 h')))
abbrev l8 (x:Int):TV:=BF (.int .u8 x)
theorem Jo (t:TypeId)(x y:Int)(b:Bool)(h:decide (x=y)=b):Be P (.bin .eql t) [l8 x,l8 y] (lb b):=By (vs:=[.int .u8 x,.int .u8 y]) fun w=>by subst h;simp[OpK.run,eqGuard,binOp,Op.intCmp];rfl
theorem SY (t:TypeId)(x y:Int)(b:Bool)(h:decide (x < y)=b):Be P (.bin .lss t) [l8 x,l8 y] (lb b):=By (vs:=[.int .u8 x,.int .u8 y]) fun w=>by subst h;simp[OpK.run,eqGuard,binOp,Op.intCmp]
theorem YR (t:TypeId)(x y:Int)(b:Bool)(h:decide (y < x)=b):Be P (.bin .gtr t) [l8 x,l8 y] (lb b):=By (vs:=[.int .u8 x,.int .u8 y]) fun w=>by subst h;simp[OpK.run,eqGuard,binOp,Op.intCmp]
end
def fF (c:Bool)(k:Nat)(q:Rat):Item where
 n:=4
 T:=fun N w l => ∃ n d l1 l2,l=l1++l2∧(IP (aP k n)).T N w l1∧(IP (aP k d)).T N w l2∧Rat.divInt n d=q∧0 < k∧(c=true→(IP (cP q.num)).T N w l1∧(IP (cP (q.den:Int))).T N w l2)
 step:=fun hw hN ⟨n,d,l1,l2,e,h1,h2,h3,h4,h5⟩=>⟨n,d,l1,l2,e,(IP (aP k n)).step hw hN h1,(IP (aP k d)).step hw hN h2,h3,h4,fun hc=>⟨(IP _).step hw hN (h5 hc).1,(IP _).step hw hN (h5 hc).2⟩⟩
 len:=fun ⟨n,d,l1,l2,e,h1,h2,_⟩=>by rw[e,List.length_append,(IP _).len h1,(IP _).len h2];rfl
 one:=fun ⟨n,d,l1,l2,e,h1,h2,_⟩=>by
  rw[e];intro v hv;rcases List.mem_append.1 hv with hv | hv
  ·exact (IP _).one h1 v hv
  ·exact (IP _).one h2 v hv
abbrev fc (c:Bool)(k:Nat)(q:Rat):CT := .ag [.b (.it (fF c k q))]
abbrev tfc (c:Bool)(k:Nat)(q:Rat):TV := .cv (fc c k q)
theorem Abb {c c':Bool}{k k':Nat}{q q':Rat}(hc:c'=true→c=true)(hk:k≤k')(hq:q=q'):ItLe (fF c k q) (fF c' k' q'):=by
 subst hq;rintro N w l ⟨n,d,l1,l2,e,⟨s1,A1,n1,c1,e1,h1,h1'⟩,⟨s2,A2,n2,c2,e2,h2,h2'⟩,h3,h4,h5⟩;exact ⟨n,d,l1,l2,e,⟨s1,A1,n1,c1,e1,h1,Nat.le_trans h1' hk⟩,⟨s2,A2,n2,c2,e2,h2,Nat.le_trans h2' hk⟩,h3,by omega,fun h=>h5 (hc h)⟩
theorem XW {c c':Bool}{k k':Nat}{q q':Rat}(hc:c'=true→c=true)(hk:k≤k')(hq:q=q'):CTle (fc c k q) (fc c' k' q'):=(ILe.cons (Abb hc hk hq).x ILe.refl).ag
theorem Acb {c:Bool}{k k':Nat}{q:Rat}(hk:k≤k'):CTle (fc c k q) (fc false k' q):=XW (fun h=>by cases h) hk rfl
theorem GB {c:Bool}{k k':Nat}{q:Rat}(hk:k≤k'):CTle (fc c k q) (fc c k' q):=XW (fun h=>h) hk rfl
theorem KF {k:Nat}{q:Rat}(h:Lq q k):CTle (frc q) (fc true k q):=by
 rintro N w g v ⟨vs,e,hl⟩;obtain ⟨l1,l2,e2,h1,l3,l4,e3,h2,h3⟩:=hl;have h3:l4=[]:=h3;subst h3;rw[List.append_nil] at e3;subst e3;have g1:(IP (cP q.num)).T N w l1:=h1;have g2:(IP (cP (q.den:Int))).T N w l2:=h2;obtain ⟨s,A,n,c,q1,q2⟩:=h1;obtain ⟨s',A',n',c',q3,q4⟩:=h2;refine ⟨vs,e,vs,[],by simp,⟨q.num,q.den,l1,l2,e2,⟨s,A,n,c,q1,CInt.any q2,CInt.len q2 h.n⟩,⟨s',A',n',c',q3,CInt.any q4,CInt.len q4 h.d⟩,BH q,h.k0,fun _=>⟨g1,g2⟩⟩,rfl⟩
theorem XX {k:Nat}{q:Rat}:CTle (fc true k q) (frc q):=by
 rintro N w g v ⟨vs,e,hl⟩;obtain ⟨n,d,l1,l2,e1,h1,h2,h3,h4,h5⟩:=Dx hl;obtain ⟨g1,g2⟩:=h5 rfl;exact ⟨vs,e,l1,l2,e1,g1,l2,[],by simp,g2,rfl⟩
abbrev zl:List It:=[.o false,.z,.o false,.z]
theorem PJ (N:Nat→Prop)(w:World){k:Nat}:(IP (aP k 0)).T N w [.bool false,.slice none 0 0]:=⟨false,none,0,0,rfl,(CInt.zero w).any,Nat.zero_le _⟩
theorem Abl:CTle (.ag zl) (fc false 1 0):=by
 rintro N w g v ⟨vs,e,hl⟩;obtain ⟨l1,r1,e1,h1,l2,r2,e2,h2,l3,r3,e3,h3,l4,r4,e4,h4,h5⟩:=hl;have h5:r4=[]:=h5;have h1:l1=[_]:=h1;have h2:l2=[_]:=h2;have h3:l3=[_]:=h3;have h4:l4=[_]:=h4;subst h5 h1 h2 h3 h4 e4 e3 e2 e1;exact ⟨_,e,_,[],rfl,⟨0,0,[.bool false,.slice none 0 0],[.bool false,.slice none 0 0],rfl,PJ N w,PJ N w,by rw[LI];rfl,by omega,fun h=>by cases h⟩,rfl⟩
section
variable {I:WInv}{f:FuncId}{res:TV}{c c':Bool}{k j:Nat}{p q:Rat}
theorem TX {N:Nat→Prop}{w:World}{v:Value}(h:(fc c k q).sem N w G0 v) : ∃ n d,Lim k n∧Lim k d∧0 < k∧Rat.divInt n d=q∧(fr (aP k n) (aP k d)).sem N w G0 v:=by
 obtain ⟨vs,e,hl⟩:=h;obtain ⟨n,d,l1,l2,e1,h1,h2,h3,h4,h5⟩:=Dx hl;have g1:=h1;have g2:=h2;obtain ⟨s,A,n1,c1,q1,q2,q3⟩:=h1;obtain ⟨s',A',n2,c2,q4,q5,q6⟩:=h2;exact ⟨n,d,q2.lim.mono q3,q5.lim.mono q6,h4,h3,vs,e,l1,l2,e1,g1,l2,[],by simp,g2,rfl⟩
theorem QT (h : ∀ n d,Fk (aP k n) (aP k d) n d k→Rat.divInt n d=q→Sp Tryz.prog I f [fr (aP k n) (aP k d)] res)(hk:k≤262144):Sp Tryz.prog I f [fc c k q] res:=by
 intro N w vs hI hl hv;obtain ⟨v,r,e,h1,h2⟩:=hv;obtain ⟨n,d,a,b,k0,hq,hs⟩:=TX h1;exact h n d ⟨So (by omega),So (by omega),a,b,k0,hk⟩ hq N w vs hI hl ⟨v,r,e,hs,h2⟩
theorem Cl (r:Int)(hr:p.num.sign=r)(h:k≤262144):Sp Tryz.prog I 86 [fc c k p] (li r) :=
 QT (fun n d a e=>by subst e;exact Wt r a hr) h
def kP (k:Nat)(z:Int):IntP:=⟨fun w s A n c=>CInt w s A n c z∧n≤k,fun hw h=>⟨h.1.step hw,h.2⟩⟩
abbrev ik (k:Nat)(z:Int):List It:=ip (kP k z)
theorem Cf {z:Int}(h:k≤1048576):Num (ik k z) z:=by
 intro N w l hl;obtain ⟨s,A,n,c,e,h1,h2⟩:=Dx hl;exact ⟨s,A,n,c,e,h1.any,Nat.le_trans h2 h⟩
theorem YJ {z:Int}:Can (ik k z) z:=by
 intro N w l hl;obtain ⟨s,A,n,c,e,h1,h2⟩:=Dx hl;exact ⟨s,A,n,c,e,h1⟩
theorem Hs {z:Int}(h:Lim k z):CTle (.ag (ic z)) (.ag (ik k z)):=by
 rintro N w g v ⟨vs,e,l1,l2,e1,⟨s,A,n,c,e2,h1⟩,h2⟩;exact ⟨vs,e,l1,l2,e1,⟨s,A,n,c,e2,h1,CInt.len h1 h⟩,h2⟩
theorem C3 {k:Nat}{q:Rat}:CTle (fc true k q) (.ag (ik k q.num++ik k (q.den:Int))):=by
 rintro N w g v ⟨vs,e,hl⟩;obtain ⟨n,d,l1,l2,e1,h1,h2,h3,h4,h5⟩:=Dx hl;obtain ⟨g1,g2⟩:=h5 rfl;obtain ⟨s,A,m,c,q1,q2⟩:=g1;obtain ⟨s',A',m',c',q3,q4⟩:=g2;obtain ⟨t,B,i,a,r1,r2,r3⟩:=h1;obtain ⟨t',B',i',a',r4,r5,r6⟩:=h2;rw[q1] at r1;rw[q3] at r4;injection r1 with r1 r7;injection r7 with r7 r8;injection r7 with r7 r9 r10;injection r4 with r4 r11;injection r11 with r11 r12;injection r11 with r11 r13 r14;subst r9 r13;exact ⟨vs,e,l1,l2,e1,⟨s,A,m,c,q1,q2,r3⟩,l2,[],by simp,⟨s',A',m',c',q3,q4,r6⟩,rfl⟩
theorem XT {k:Nat}{q:Rat}(h:0 < k):CTle (.ag (ik k q.num++ik k (q.den:Int))) (fc true k q):=by
 rintro N w g v ⟨vs,e,hl⟩;obtain ⟨l1,l2,e2,h1,l3,l4,e3,h2,h3⟩:=hl;have h3:l4=[]:=h3;subst h3;rw[List.append_nil] at e3;subst e3;obtain ⟨s,A,n,c,q1,q2,q5⟩:=h1;obtain ⟨s',A',n',c',q3,q4,q6⟩:=h2;exact ⟨vs,e,vs,[],by simp,⟨q.num,q.den,l1,l2,e2,⟨s,A,n,c,q1,CInt.any q2,q5⟩,⟨s',A',n',c',q3,CInt.any q4,q6⟩,BH q,h,fun _=>⟨⟨s,A,n,c,q1,q2⟩,⟨s',A',n',c',q3,q4⟩⟩⟩,rfl⟩
theorem Uj (h:k≤262144):Sp Tryz.prog I 159 [fc c k p] (.cv (.ag (ik (k+1) (clq p)))) :=
 QT (fun n d a e=>by subst e;exact (YG a).rs (Hs (a.lq.n.neg.fdiv _).neg).tv) h
end
section
variable {I:WInv}{f:FuncId}{res:TV}{k j m:Nat}{a b:Int}
theorem AbU {N:Nat→Prop}{w:World}{g:Gh}{v:Value}(h:(CT.ag (ik k a)).sem N w g v):Lim k a:=by
 obtain ⟨vs,e,l1,l2,e1,⟨s,A,n,c,e2,h1,h2⟩,h3⟩:=h;exact (AInt.lim h1.any).mono h2
theorem AaX (h:Lim k a→Sp Tryz.prog I f [.ag (ik k a)] res):Sp Tryz.prog I f [.ag (ik k a)] res:=by
 intro N w vs hI hl hv;obtain ⟨v,r,e,h1,h2⟩:=hv;exact h (AbU h1) N w vs hI hl ⟨v,r,e,h1,h2⟩
theorem NT (h:Lim k a→Lim j b→Sp Tryz.prog I f [.ag (ik k a),.ag (ik j b)] res):Sp Tryz.prog I f [.ag (ik k a),.ag (ik j b)] res:=by
 intro N w vs hI hl hv;obtain ⟨v,r,e,h1,v2,r2,e2,h2,h3⟩:=hv;exact h (AbU h1) (AbU h2) N w vs hI hl ⟨v,r,e,h1,v2,r2,e2,h2,h3⟩
theorem Ad1 (h1:k+1≤m)(h2:j+1≤m)(h:m≤1048576):Sp Tryz.prog I 145 [.ag (ik k a),.ag (ik j b)] (.cv (.ag (ik m (a+b)))) :=
 NT fun l1 l2=>(PK (Cf (by omega)) (Cf (by omega))).rs (Hs (((l1.mono (by omega:k≤m - 1)).add (l2.mono (by omega))).mono (by omega))).tv
theorem Ad0 (h:k+j≤1048576):Sp Tryz.prog I 146 [.ag (ik k a),.ag (ik j b)] (.cv (.ag (ik (k+j) (a*b)))) :=
 NT fun l1 l2=>(X0 (Cf (by omega)) (Cf (by omega))).rs (Hs (l1.mul l2)).tv
theorem AaS (h1:k+1≤m)(h2:j+1≤m)(h:m≤1048576):Sp Tryz.prog I 188 [.ag (ik k a),.ag (ik j b)] (.cv (.ag (ik m (a+b)))) :=
 NT fun l1 l2=>(Xn (Cf (by omega)) (Cf (by omega))).rs (Hs (((l1.mono (by omega:k≤m - 1)).add (l2.mono (by omega))).mono (by omega))).tv
theorem EX (h:k+j≤1048576):Sp Tryz.prog I 112 [.ag (ik k a),.ag (ik j b)] (.cv (.ag (ik (k+j) (a*b)))) :=
 NT fun l1 l2=>(AcK (Cf (by omega)) (Cf (by omega))).rs (Hs (l1.mul l2)).tv
theorem AcJ (h:k≤1048576):Sp Tryz.prog I 147 [.ag (ik k a)] (.cv (.ag (ik k (-a)))):=AaX fun l=>(J1 (Cf h)).rs (Hs l.neg).tv
theorem WH (r:Int)(hr:a.sign=r)(h:k≤1048576):Sp Tryz.prog I 94 [.ag (ik k a)] (li r):=C9 r (Cf h) hr
theorem AaR (hk:k≤1048576)(hj:j≤1048576):Sp Tryz.prog I 135 [.ag (ik k a),.ag (ik j b)] (li (Eg a b)):=AcP _ (Cf hk) (Cf hj) rfl
theorem Tz (a:Int)(h:R64 a):Sp Tryz.prog I 113 [ci a] (.cv (.ag (ik 2 a))):=(FO a h.1 h.2).rs (Hs (QS h)).tv
theorem WI (r:Bool)(hr:decide (a=b)=r):Sp Tryz.prog I 107 [.ag (ik k a),.ag (ik j b)] (lb r):=Zx r YJ YJ hr
theorem Aac {q:Rat}(h:Lq q k):CTle (fc true j q) (fc true k q):=fun N w g v hv=>KF h N w g v (XX N w g v hv)
end
section
variable {I:WInv}{c c':Bool}{k j:Nat}{p q:Rat}{n d:Int}
theorem K6 {q1 q2:IntP}(h1:Num (ip q1) n)(h2:Num (ip q2) d)(hk1:Lim 1048576 n)(hk2:Lim 1048576 d):Sp Tryz.prog I 108 [.ag (ip q1),.ag (ip q2)] (tfr (Rat.divInt n d)):=by
 by_cases hd:d=0
 ·have e:Rat.divInt n d=0:=by subst hd;exact Rat.divInt_zero n
  rw[e];refine Sp.res (res := .cv (.ag (Nm++ic 1))) ?_ fun N w v h=>Nw h
  exact sr 53 [po (FO 1 (by omega) (by omega)),po (C9 0 h2 (by rw[hd];rfl))]
 ·by_cases hn:n=0
  ·have e:Rat.divInt n d=0:=by subst hn;exact Rat.zero_divInt d
   rw[e];refine Sp.res (res := .cv (.ag (Nm++ic 1))) ?_ fun N w v h=>Nw h
   rcases Int.lt_or_gt_of_ne hd with hdd | hdd
   ·exact sr 53 [po (FO 1 (by omega) (by omega)),po (C9 (-1) h2 (Int.sign_eq_neg_one_of_neg hdd)),po (C9 0 h1 (by rw[hn];rfl))]
   ·exact sr 53 [po (FO 1 (by omega) (by omega)),po (C9 1 h2 (Int.sign_eq_one_of_pos hdd)),po (C9 0 h1 (by rw[hn];rfl))]
  ·obtain ⟨sn,hsn,hs2⟩ : ∃ s,n.sign=s∧(s=1∨s = -1):=by
    rcases Int.lt_or_gt_of_ne hn with h | h
    ·exact ⟨_,Int.sign_eq_neg_one_of_neg h,.inr rfl⟩
    ·exact ⟨_,Int.sign_eq_one_of_pos h,.inl rfl⟩
   have ln:=EZ (d:=d) hk1;have ld:=FW (n:=n) hk2 (by omega)
   rcases Int.lt_or_gt_of_ne hd with hdd | hdd
   ·have m1:Num (ic (-n)) (-n):=Bm hk1.neg (Nat.le_refl _)
    have m2:Num (ic (-d)) (-d):=Bm hk2.neg (Nat.le_refl _);have hp:0 < -d:=by omega
    have hg:=KE (n := -n) (d := -d) (by omega)
    have mg:Num (ic ((Nat.gcd (-n).natAbs (-d).natAbs:Nat):Int)) _:=Bm (Fa hk2.neg (by omega)) (Nat.le_refl _)
    rw[←OS n d] at ln ld ⊢;unfold tfr frc;rw[Dq hp] at ln ⊢;rw[Dr hp] at ld ⊢;have c1:=Bm ln (Nat.le_refl _);have c2:=Bm ld (Nat.le_refl _);rcases hs2 with rfl | rfl <;> exact sr 53 [po (FO 1 (by omega) (by omega)),po (C9 (-1) h2 (Int.sign_eq_neg_one_of_neg hdd)),po (C9 _ h1 hsn),po (C9 (-1) h2 (Int.sign_eq_neg_one_of_neg hdd)),po (J1 h1),po (J1 h2),po (T3 m1 m2),po (J8 m1 mg hk1.neg (Fa hk2.neg (by omega)) hg),po (J8 m2 mg hk2.neg (Fa hk2.neg (by omega)) hg),po (Eo c1),po (Eo c2)]
   ·have hp:0 < d:=hdd
    have hg:=KE (n:=n) (d:=d) (by omega)
    have mg:Num (ic ((Nat.gcd n.natAbs d.natAbs:Nat):Int)) _:=Bm (Fa hk2 (by omega)) (Nat.le_refl _)
    unfold tfr frc;rw[Dq hp] at ln ⊢;rw[Dr hp] at ld ⊢;have c1:=Bm ln (Nat.le_refl _);have c2:=Bm ld (Nat.le_refl _);rcases hs2 with rfl | rfl <;> exact sr 53 [po (FO 1 (by omega) (by omega)),po (C9 1 h2 (Int.sign_eq_one_of_pos hdd)),po (C9 _ h1 hsn),po (C9 1 h2 (Int.sign_eq_one_of_pos hdd)),po (T3 h1 h2),po (J8 h1 mg hk1 (Fa hk2 (by omega)) hg),po (J8 h2 mg hk2 (Fa hk2 (by omega)) hg),po (Eo c1),po (Eo c2)]
theorem H8 {m:Nat}{a b:Int}(hk:k≤m)(hj:j≤m)(h0:0 < m)(hm:m≤262144):Sp Tryz.prog I 108 [.ag (ik k a),.ag (ik j b)] (tfc true m (Rat.divInt a b)) :=
 NT fun l1 l2=>(K6 (Cf (by omega)) (Cf (by omega)) (l1.mono (by omega)) (l2.mono (by omega))).rs (KF (Fk.lq ⟨Cf (k:=k) (by omega),Cf (k:=j) (by omega),l1.mono hk,l2.mono hj,h0,hm⟩)).tv
theorem Bx (h:k≤262144):Sp Tryz.prog I 56 [fc c k p] (tfc true k p) :=
 QT (fun n d a e=>by
  subst e;have r:=(K6 (I:=I) a.a a.b a.big.1 a.big.2).rs (KF a.lq).tv;exact sr 8 [po (r)]) h
theorem Pb (h:k≤262144):Sp Tryz.prog I 152 [fc c k p] (tfc true k (-p)) :=
 QT (fun n d a e=>by
  subst e;have r:=K6 (I:=I) (Bm a.ln.neg (by have:=a.k1;omega)) a.b (a.ln.neg.mono (by have:=a.k1;omega)) a.big.2
  have l:=a.lq.neg;rw[Rat.neg_divInt] at l ⊢;have r:=r.rs (KF l).tv;exact sr 9 [po (J1 a.a),po (r)]) h
theorem Ed (h:k≤262144):Sp Tryz.prog I 42 [fc c k p] (li p.num.sign):=by
 exact sr 7 [po ((Bx (I:=I) (c:=c) (k:=k) (p:=p) (by omega)).rs (C3 (k:=k) (q:=p)).tv),po (WH (I:=I) (k:=k) (a:=p.num) (r:=(p.num).sign) rfl (by omega))]
theorem Ac6:Sp Tryz.prog I 151 [fc c 12 p,fc c' 12 q] (tfc true 25 (p+q)):=by
 have e:=T7 (a:=p.num) (b:=(p.den:Int)) (c:=q.num) (d:=(q.den:Int)) (by have:=p.den_pos;omega) (by have:=q.den_pos;omega)
 rw[BH,BH] at e;rw[←e];exact sr 26 [po ((Bx (I:=I) (c:=c) (k:=12) (p:=p) (by omega)).rs (C3 (k:=12) (q:=p)).tv),po ((Bx (I:=I) (c:=c') (k:=12) (p:=q) (by omega)).rs (C3 (k:=12) (q:=q)).tv),po (EX (I:=I) (k:=12) (j:=12) (a:=p.num) (b:=(q.den:Int)) (by omega)),po (EX (I:=I) (k:=12) (j:=12) (a:=q.num) (b:=(p.den:Int)) (by omega)),po (AaS (I:=I) (k:=24) (j:=24) (m:=25) (a:=p.num*(q.den:Int)) (b:=q.num*(p.den:Int)) (by omega) (by omega) (by omega)),po (EX (I:=I) (k:=12) (j:=12) (a:=(p.den:Int)) (b:=(q.den:Int)) (by omega)),po (H8 (I:=I) (k:=25) (j:=24) (m:=25) (a:=(p.num*(q.den:Int))+(q.num*(p.den:Int))) (b:=(p.den:Int)*(q.den:Int)) (by omega) (by omega) (by omega) (by omega))]
theorem Adq:Sp Tryz.prog I 125 [fc c 12 p,fc c' 12 q] (tfc true 24 (p*q)):=by
 have e:=T5 p.num p.den q.num q.den;rw[BH,BH] at e;rw[←e];exact sr 20 [po ((Bx (I:=I) (c:=c) (k:=12) (p:=p) (by omega)).rs (C3 (k:=12) (q:=p)).tv),po ((Bx (I:=I) (c:=c') (k:=12) (p:=q) (by omega)).rs (C3 (k:=12) (q:=q)).tv),po (EX (I:=I) (k:=12) (j:=12) (a:=p.num) (b:=q.num) (by omega)),po (EX (I:=I) (k:=12) (j:=12) (a:=(p.den:Int)) (b:=(q.den:Int)) (by omega)),po (H8 (I:=I) (k:=24) (j:=24) (m:=24) (a:=p.num*q.num) (b:=(p.den:Int)*(q.den:Int)) (by omega) (by omega) (by omega) (by omega))]
theorem Acm:Sp Tryz.prog I 68 [fc c 12 p,fc c' 12 q] (tfc true 24 (p / q)):=by
 have e:=T6 p.num p.den q.num q.den;rw[BH,BH] at e;rw[←e];exact sr 20 [po ((Bx (I:=I) (c:=c) (k:=12) (p:=p) (by omega)).rs (C3 (k:=12) (q:=p)).tv),po ((Bx (I:=I) (c:=c') (k:=12) (p:=q) (by omega)).rs (C3 (k:=12) (q:=q)).tv),po (EX (I:=I) (k:=12) (j:=12) (a:=p.num) (b:=(q.den:Int)) (by omega)),po (EX (I:=I) (k:=12) (j:=12) (a:=(p.den:Int)) (b:=q.num) (by omega)),po (H8 (I:=I) (k:=24) (j:=24) (m:=24) (a:=p.num*(q.den:Int)) (b:=(p.den:Int)*q.num) (by omega) (by omega) (by omega) (by omega))]
theorem Abp:Sp Tryz.prog I 117 [fc c 12 p,fc c' 12 q] (tfc true 25 (p - q)):=by
 rw[show p - q=p + -q by grind]
 exact sr 9 [po (Pb (I:=I) (c:=c') (k:=12) (p:=q) (by omega)),po (Ac6 (I:=I) (c:=c) (c':=true) (p:=p) (q := -q))]
theorem Ts:(p - q).num.sign=FF p q:=by
 unfold FF;by_cases h1:p < q
 ·rw[if_pos h1]
  have h : ¬ 0≤(p - q).num:=fun h=>by have:=Rat.num_nonneg.1 h;grind
  exact Int.sign_eq_neg_one_of_neg (by omega)
 ·rw[if_neg h1]
  by_cases h2:p=q
  ·rw[if_pos h2,h2,show q - q=0 by grind];rfl
  ·rw[if_neg h2]
   have h : ¬ 0≤(-(p - q)).num:=fun h=>by have:=Rat.num_nonneg.1 h;grind
   rw[Rat.neg_num] at h;exact Int.sign_eq_one_of_pos (by omega)
theorem P7:Sp Tryz.prog I 74 [fc c 12 p,fc c' 12 q] (li (FF p q)):=by
 rw[←Ts];exact sr 9 [po (Abp (I:=I) (c:=c) (c':=c') (p:=p) (q:=q)),po (Ed (I:=I) (c:=true) (k:=25) (p:=p - q) (by omega))]
theorem Je (a:Int)(ha:R64 a):Sp Tryz.prog I 69 [ci a] (tfc true 2 (a:Rat)):=by
 have e:Rat.divInt a 1=(a:Rat):=by rw[Rat.divInt_eq_div,Rat.intCast_one,Rat.div_def];grind
 rw[←e];exact sr 7 [po (Tz (I:=I) a ha),po (Tz (I:=I) 1 ⟨by omega,by omega⟩),po (H8 (I:=I) (k:=2) (j:=2) (m:=2) (a:=a) (b:=1) (by omega) (by omega) (by omega) (by omega))]
theorem Ab9 {a b:Int}(hk:k≤1048576)(hj:j≤1048576)(hb:b≠0):Sp Tryz.prog I 149 [.ag (ik k a),.ag (ik j b)] (.tu [.ag (ik (k+1) (a.fdiv b)),.ag (ik j (a.fmod b)),ci 0]) :=
 NT fun l1 l2=>(J8 (Cf hk) (Cf hj) (l1.mono (by omega)) (l2.mono (by omega)) hb).rs (KS ⟨Hs (l1.fdiv _),Hs (l2.fmod hb),CTle.refl,trivial⟩)
theorem NI {a:Int}(hk:k≤1048576):Sp Tryz.prog I 150 [.ag (ik k a)] (.cv (.ag (ik k a))):=AaX fun l=>(Eo (Cf hk)).rs (Hs l).tv
theorem XQ {p:Rat}:decide ((p.num.fmod (p.den:Int)).sign < 0)=false:=decide_eq_false fun h=>by
 have h1:=Int.sign_neg_iff.1 h;have h2:=p.den_pos;have:=Int.fmod_nonneg_of_pos p.num (b:=(p.den:Int)) (by omega)
 omega
theorem XS:Sp Tryz.prog I 156 [fc c 12 p] (.cv (.ag (ik 13 (flq p)))):=by
 have hd:(p.den:Int)≠0:=by have:=p.den_pos;omega
 exact sr 25 [po ((Bx (I:=I) (c:=c) (k:=12) (p:=p) (by omega)).rs (C3 (k:=12) (q:=p)).tv),po (Ab9 (I:=I) (k:=12) (j:=12) (a:=p.num) (b:=(p.den:Int)) (by omega) (by omega) hd),po (WH (I:=I) (k:=12) (a:=p.num.fmod (p.den:Int)) (r:=(p.num.fmod (p.den:Int)).sign) rfl (by omega)),pk (EQ 3 ((p.num.fmod (p.den:Int)).sign) 0 false XQ),po (NI (I:=I) (k:=13) (a:=p.num.fdiv (p.den:Int)) (by omega))]
theorem LE:Sp Tryz.prog I 115 [fc c 12 p] (.cv (.ag (ik 13 (clq p)))):=by
 exact sr 8 [po (Pb (I:=I) (c:=c) (k:=12) (p:=p) (by omega)),po (XS (I:=I) (c:=true) (p := -p)),po (AcJ (I:=I) (k:=13) (a:=flq (-p)) (by omega)),po (NI (I:=I) (k:=13) (a := -flq (-p)) (by omega))]
theorem Zk {x:List It}{z:Int}(hx:Num x z):Sp Tryz.prog I 158 [.ag x] (.tu [ci (OB z),ci (PE z)]):=by
 intro N w vs _ _ hv;obtain ⟨l,rfl,h1⟩:=Ox hv;obtain ⟨s,A,n,c,rfl,h2,h3⟩:=hx N w l h1;exact (PZ w h2).mono fun e w' he=>⟨_,he.1,⟨_,rfl,_,_,rfl,(rfl:[_]=[_]),_,_,rfl,(rfl:[_]=[_]),rfl⟩,he.2⟩
theorem Xm {ds:List Nat}(i:Nat)(h:W32 ds)(hl:ds.length≤1048576):Sp Tryz.prog I 157 [cds ds,ci (i:Int)] (BF (.int .u64 (ds.getD i 0:Nat))):=by
 intro N w vs _ _ hv;obtain ⟨v,r,rfl,⟨A,c,e1,q1,q2,q3⟩,v2,r2,rfl,h3,h4⟩:=hv;have h3:[v2]=[.int .i64 (i:Int)]:=h3;injection h3 with h3;obtain rfl:r2=[]:=h4;injection e1 with e1;subst e1 h3;exact (Er (i:=i) w q1 h (by omega)).mono fun e w' he=>⟨_,he.1,(rfl:[_]=[_]),by rw[←he.2];exact Below.refl _ _⟩
theorem AcB (t:TypeId){b:Nat}(hb:b < 4294967296):Be Tryz.prog (.bin .shl t) [BF (.int .u64 (b:Int)),BF (.int .u64 32)] (BF (.int .u64 ((b:Int)*4294967296))):=By (vs:=[.int .u64 (b:Int),.int .u64 32]) fun w=>by
 have h:IntKind.u64.wrap ((b:Int)*4294967296)=(b:Int)*4294967296:=IntWalk.u64_in _ (by omega)
 simp[OpK.run,eqGuard,binOp,Op.shift,IntKind.bits,h]
theorem Adn (t:TypeId){a b v:Nat}(ha:a < 4294967296)(hb:b < 4294967296)(hv:v=a+4294967296*b):Be Tryz.prog (.bin .or t) [BF (.int .u64 (a:Int)),BF (.int .u64 ((b:Int)*4294967296))] (BF (.int .u64 (v:Int))):=By (vs:=[.int .u64 (a:Int),.int .u64 ((b:Int)*4294967296)]) fun w=>by
 have h:=N6 a b ha hb;rw[←hv] at h;exact congrArg (fun z=>Result.ok (Value.int .u64 z) w) h
theorem AaK (t:TypeId)(x y:Int)(b:Bool)(h:decide (x≤y)=b):Be Tryz.prog (.bin .leq t) [BF (.int .u64 x),BF (.int .u64 y)] (lb b):=By (vs:=[.int .u64 x,.int .u64 y]) fun w=>by subst h;simp[OpK.run,eqGuard,binOp,Op.intCmp]
theorem AaJ (t:TypeId)(x y:Int)(b:Bool)(h:decide (x < y)=b):Be Tryz.prog (.bin .lss t) [BF (.int .u64 x),BF (.int .u64 y)] (lb b):=By (vs:=[.int .u64 x,.int .u64 y]) fun w=>by subst h;simp[OpK.run,eqGuard,binOp,Op.intCmp]
theorem Ado (x y:Int)(h:IntKind.u64.wrap (-x)=y):Be Tryz.prog (.un .neg) [BF (.int .u64 x)] (BF (.int .u64 y)):=By (vs:=[.int .u64 x]) fun w=>by
 rw[←Int.zero_sub] at h;simp only[OpK.run,Op.unary,Op.intArith,h]
 rfl
theorem AaL (s d:TypeId)(x y:Int)(hs:Tryz.prog.underlying s=some (.int .u64))(ht:Tryz.prog.underlying d=some (.int .i64))(h:IntKind.i64.wrap x=y):Be Tryz.prog (.conv s d) [BF (.int .u64 x)] (li y):=By (vs:=[.int .u64 x]) fun w=>by
 subst h;simp[OpK.run,convert,Conv.intToInt,AL hs,AL ht]
theorem WF {x:List It}{z:Int}(hx:Num x z):Sp Tryz.prog I 116 [.ag x] (.tu [ci (OB z),ci (PE z)]):=by
 refine Sp.sub (args:=[.ag (ip (iy z))]) ?_ fun N w vs ⟨v,l,e,h1,h2⟩=>⟨v,l,e,QV hx h1,h2⟩
 obtain ⟨s,hs⟩ : ∃ s,decide (z < 0)=s:=⟨_,rfl⟩;have ca:=Gz (I:=I) s (H6 z) hs;have lw:=Ai z.natAbs;have l0:(Ae z.natAbs).length=(Ae z.natAbs).length:=rfl;have ln:=GC (P:=Tryz.prog) 22 97 3 (Ae z.natAbs) Tryz.underlying22;unfold dz at ca;by_cases h2:2 < (Ae z.natAbs).length
 ·obtain ⟨e1,e2⟩:=Ex (Um l0 h2)
  rw[e1,e2];exact sr 37 [po ca,pk ln,pk (BN 3 (((Ae z.natAbs).length:Nat):Int) 2 (by omega))]
 ·obtain ⟨ev,a1,a2⟩:=O8 l0 (by omega)
  have d0:=Xm (I:=I) 0 lw (by omega)
  have d1:=Xm (I:=I) 1 lw (by omega)
  have o1:=AcB 143 a2;have o2:=Adn 143 a1 a2 ev;have o3:=Ao (P:=Tryz.prog) 3 (((Ae z.natAbs).length:Nat):Int) 2 (by omega)
  have hz:z=sgn s z.natAbs:=(Ab0 hs).symm;have hr:inR z=if s then decide ((z.natAbs:Int)≤9223372036854775808) else decide ((z.natAbs:Int) < 9223372036854775808):=by
   rw[hz,Bw];cases s <;> simp[sgn,JK,JJ]
  have e1:OB z=if inR z then z else 0:=rfl
  have e2:PE z=if inR z then 0 else 5:=rfl
  rw[e1,e2];cases s with
  | true =>
   cases h3:decide ((z.natAbs:Int)≤9223372036854775808) with
   | true =>
    rw[hr];simp only[if_true,h3];have w1:IntKind.i64.wrap (IntKind.u64.wrap (-(z.natAbs:Int)))=z:=(R9 (by rw[JK];exact h3)).trans hz.symm
    exact sr 37 [po ca,pk ln,pk o3,po d0,po d1,pk o1,pk o2,pk (AaK 143 (z.natAbs:Int) 9223372036854775808 true h3),pk (Ado (z.natAbs:Int) _ rfl),pk (AaL 143 2 _ _ Tryz.underlying143 Tryz.underlying2 w1)]
   | false =>
    rw[hr];simp only[if_true,h3];exact sr 37 [po ca,pk ln,pk o3,po d0,po d1,pk o1,pk o2,pk (AaK 143 (z.natAbs:Int) 9223372036854775808 false h3)]
  | false =>
   cases h3:decide ((z.natAbs:Int) < 9223372036854775808) with
   | true =>
    rw[hr];simp only[Bool.false_eq_true,if_false,if_true,h3];have w1:IntKind.i64.wrap (z.natAbs:Int)=z:=(R8 (by rw[JJ];exact h3)).trans hz.symm
    exact sr 37 [po ca,pk ln,pk o3,po d0,po d1,pk o1,pk o2,pk (AaJ 143 (z.natAbs:Int) 9223372036854775808 true h3),pk (AaL 143 2 _ _ Tryz.underlying143 Tryz.underlying2 w1)]
   | false =>
    rw[hr];simp only[Bool.false_eq_true,if_false,h3];exact sr 37 [po ca,pk ln,pk o3,po d0,po d1,pk o1,pk o2,pk (AaJ 143 (z.natAbs:Int) 9223372036854775808 false h3)]
def okc (q:Rat):Bool:=decide (-1152921504606846976≤clq q∧clq q≤1152921504606846976)
def civ (q:Rat):Int:=if okc q then clq q else 0
def cie (q:Rat):Int:=if okc q then 0 else 5
theorem XH {z:Int}(h1 : -1152921504606846976≤z)(h2:z≤1152921504606846976):inR z=true:=by unfold inR;simp;omega
theorem XI {z:Int}(h:inR z=true) : -9223372036854775808≤z∧z≤9223372036854775807:=by unfold inR at h;simp at h;omega
theorem Acw:Sp Tryz.prog I 119 [fc c 12 p] (.tu [ci (civ p),ci (cie p)]):=by
 have t0:=Zk (I:=I) (Cf (k:=13) (z:=clq p) (by omega))
 unfold civ cie;cases hr:inR (clq p) with
 | false =>
  have ho:okc p=false:=by
   cases h:okc p with
   | false=>rfl
   | true=>have h:=of_decide_eq_true h;rw[XH h.1 h.2] at hr;cases hr
  rw[ho];rw[(Ex hr).1,(Ex hr).2] at t0;exact sr 23 [po (Uj (I:=I) (c:=c) (k:=12) (p:=p) (by omega)),po (t0),pa]
 | true =>
  rw[(Jx hr).1,(Jx hr).2] at t0;obtain ⟨b1,b2⟩:=XI hr;by_cases h1:clq p < -1152921504606846976
  ·rw[show okc p=false from decide_eq_false (by omega)]
   exact sr 23 [po (Uj (I:=I) (c:=c) (k:=12) (p:=p) (by omega)),po (t0),pa,pk (As 2 (clq p) (-1152921504606846976))]
  ·by_cases h2:clq p > 1152921504606846976
   ·rw[show okc p=false from decide_eq_false (by omega)]
    exact sr 23 [po (Uj (I:=I) (c:=c) (k:=12) (p:=p) (by omega)),po (t0),pa,pk (Aj 2 (clq p) (-1152921504606846976)),pk (BN 2 (clq p) 1152921504606846976)]
   ·rw[show okc p=true from decide_eq_true (by omega)]
    exact sr 23 [po (Uj (I:=I) (c:=c) (k:=12) (p:=p) (by omega)),po (t0),pa,pk (Aj 2 (clq p) (-1152921504606846976)),pk (Ao 2 (clq p) 1152921504606846976)]
theorem BI:Sp Tryz.prog I 72 [fc c 12 p] (.tu [ci (civ p),ci (cie p)]):=by
 have t0:=WF (I:=I) (Cf (k:=13) (z:=clq p) (by omega))
 unfold civ cie;cases hr:inR (clq p) with
 | false =>
  have ho:okc p=false:=by
   cases h:okc p with
   | false=>rfl
   | true=>have h:=of_decide_eq_true h;rw[XH h.1 h.2] at hr;cases hr
  rw[ho];rw[(Ex hr).1,(Ex hr).2] at t0;exact sr 25 [po (LE (I:=I) (c:=c) (p:=p)),po (t0),pa]
 | true =>
  rw[(Jx hr).1,(Jx hr).2] at t0;obtain ⟨b1,b2⟩:=XI hr;by_cases h1:clq p < -1152921504606846976
  ·rw[show okc p=false from decide_eq_false (by omega)]
   exact sr 25 [po (LE (I:=I) (c:=c) (p:=p)),po (t0),pa,pk (As 2 (clq p) (-1152921504606846976))]
  ·by_cases h2:clq p > 1152921504606846976
   ·rw[show okc p=false from decide_eq_false (by omega)]
    exact sr 25 [po (LE (I:=I) (c:=c) (p:=p)),po (t0),pa,pk (Aj 2 (clq p) (-1152921504606846976)),pk (BN 2 (clq p) 1152921504606846976)]
   ·rw[show okc p=true from decide_eq_true (by omega)]
    exact sr 25 [po (LE (I:=I) (c:=c) (p:=p)),po (t0),pa,pk (Aj 2 (clq p) (-1152921504606846976)),pk (Ao 2 (clq p) 1152921504606846976)]
end
structure Nd where
 par:Int
 fst:Int
 nxt:Int
 tog:Bool
 q:Rat
 st:Int
abbrev Al (c:Bool)(x:Nd):List It0:=[.lit (.int .i64 x.par),.lit (.int .i64 x.fst),.lit (.int .i64 x.nxt),.lit (.bool x.tog),.it (fF c 12 x.q),.lit (.int .i64 x.st)]
abbrev trI (c:Bool)(L:List Nd):Item:=slI 9 (L.map (Al c))
def tat (L:List Nd)(i:Nat):Nd:=L.getD i ⟨0,0,0,false,0,0⟩
theorem CZ {L:List Nd}{i:Nat}(h:i < L.length):L[i]? = some (tat L i):=by unfold tat;rw[List.getD_eq_getElem?_getD,List.getElem?_eq_getElem h];rfl
theorem Bg {L:List Nd}{i:Nat}{f:Nd→List It0}(h:i < L.length):(L.map f)[i]? = some (f (tat L i)):=map_some (CZ h)
abbrev trT (c:Bool)(L:List Nd)(f:Bool)(z:Int):CT := .ag [.b (.it (trI c L)),.o f,.i z]
def Ki (L:List Nd)(i:Nat):List Nat :=
 if h:0 < i∧(tat L i).par.toNat < i then i::Ki L (tat L i).par.toNat else []
termination_by i
decreasing_by exact h.2
def Dn (L:List Nd)(m:Nat):Prop := ∀ i,0 < i→i≤m→0≤(tat L i).par∧(tat L i).par < (i:Int)
theorem Dn.nat {L:List Nd}{m i:Nat}(h:Dn L m)(h0:0 < i)(hi:i≤m) : ∃ j:Nat,(tat L i).par=(j:Int)∧j < i:=⟨(tat L i).par.toNat,by have:=h i h0 hi;omega,by have:=h i h0 hi;omega⟩
theorem VQ (L:List Nd):Ki L 0=[]:=by rw[Ki];simp
theorem VR {L:List Nd}{i j:Nat}(h:(tat L i).par=(j:Int))(hj:j < i):Ki L i=i::Ki L j:=by
 rw[Ki,dif_pos ⟨by omega,by rw[h];exact hj⟩,h];rfl
def MN (L:List Nd)(i:Nat)(f n:Int):Bool:=(Ki L i).any fun x=>decide ((tat L x).fst=f)&&decide ((tat L x).nxt=n)
def BS (z:Int):Bool:=decide (-288230376151711744≤z)&&decide (z≤288230376151711744)
def FL (f:Bool)(z:Int)(q:Rat):Bool:=f&&(okc q&&decide (z≤civ q))
section
variable {I:WInv}{c:Bool}
theorem EA (z:Int):Sp Tryz.prog I 41 [ci z] (lb (BS z)):=by
 unfold BS;by_cases h1 : -288230376151711744≤z
 ·by_cases h2:z≤288230376151711744
  ·rw[decide_eq_true h1,decide_eq_true h2]
   exact sr 9 [pk (B0 3 z (-288230376151711744)),pk (Fn 3 z 288230376151711744)]
  ·rw[decide_eq_true h1,decide_eq_false h2]
   exact sr 9 [pk (B0 3 z (-288230376151711744)),pk (GK 3 z 288230376151711744)]
 ·rw[decide_eq_false h1]
  exact sr 9 [pk (Cu 3 z (-288230376151711744))]
theorem MQ {q:Rat}(h:okc q=true):cie q=0:=by unfold cie;rw[h];rfl
theorem PD {q:Rat}(h:okc q=false):cie q=5:=by unfold cie;rw[h];rfl
end
abbrev De:=Int×Int×Bool
abbrev AG (x:De):List It0:=[.lit (.int .i64 x.1),.lit (.int .i64 x.2.1),.lit (.bool x.2.2)]
abbrev deI (D:List De):Item:=slI 3 (D.map AG)
def dat (D:List De)(i:Nat):De:=D.getD i (0,0,false)
theorem Y0 {D:List De}{i:Nat}(h:i < D.length):D[i]? = some (dat D i):=by unfold dat;rw[List.getD_eq_getElem?_getD,List.getElem?_eq_getElem h];rfl
theorem Bd {D:List De}{i:Nat}{f:De→List It0}(h:i < D.length):(D.map f)[i]? = some (f (dat D i)):=map_some (Y0 h)
theorem RW {D:List De} : ∀ r∈D.map AG,BU r=3:=by intro r hr;obtain ⟨x,_,rfl⟩:=List.mem_map.1 hr;rfl
section
variable {I:WInv}{c:Bool}
def dcn (x:Nd):De:=(x.fst,x.nxt,x.tog)
def CY (L:List Nd)(i:Nat):List De:=(Ki L i).map fun x=>dcn (tat L x)
theorem RI (L:List Nd):CY L 0=[]:=by unfold CY;rw[VQ];rfl
theorem RJ {L:List Nd}{i j:Nat}(h:(tat L i).par=(j:Int))(hj:j < i):CY L i=dcn (tat L i)::CY L j:=by unfold CY;rw[VR h hj,List.map_cons]
theorem YW (L:List Nd)(i:Nat):(Ki L i).length≤i:=by
 induction i using Nat.strongRecOn with
 | _ i ih =>
  rw[Ki];by_cases h:0 < i∧(tat L i).par.toNat < i
  ·rw[dif_pos h,List.length_cons]
   have:=ih _ h.2;omega
  ·rw[dif_neg h];exact Nat.zero_le _
theorem U6 (L:List Nd)(i:Nat):(CY L i).length≤i:=by unfold CY;rw[List.length_map];exact YW L i
def Bh (L:List Nd)(i:Nat):List De:=(CY L i).reverse
end
def It.sub0 (i:Item):It→It
 | .sl _ => .b (.it i)
 | x=>x
def CT.sub0 (i:Item):CT→CT
 | .one x => .one (x.sub0 i)
 | .ag l => .ag (l.map (It.sub0 i))
def It.ok0:It→Bool
 | .sl k=>Nat.beq k 0
 | .ptr _ _=>false
 | .clo _ _=>false
 | _=>true
def CT.ok0:CT→Bool
 | .one x=>x.ok0
 | .ag l=>l.all It.ok0
section
variable {P:Program}{I:WInv}{N N1:Nat→Prop}{w:World}{g:Gh}{i:Item}
theorem It.sub0_sem (hN : ∀ b,N b→N1 b)(hs : ∀ l,(It.sl 0).sem N w g l→i.T N1 w l){x:It}{l:List Value}(hx:x.ok0=true)(h:x.sem N w g l):(x.sub0 i).sem N1 w G0 l:=by
 cases x with
 | b x=>exact It0.step h (WStep.refl _ _) hN
 | ptr k off=>cases hx
 | clo f p=>cases hx
 | fp x=>obtain ⟨b,off,h1,h2⟩:=h;exact ⟨b,off,h1,h2.step (WStep.refl _ _) hN⟩
 | sl k =>
  have:=Nat.eq_of_beq_eq_true hx;subst this;exact hs l h
theorem NE (hN : ∀ b,N b→N1 b)(hs : ∀ l,(It.sl 0).sem N w g l→i.T N1 w l) : ∀ {xs:List It} {l:List Value},xs.all It.ok0=true→Bt N w g xs l→Bt N1 w G0 (xs.map (It.sub0 i)) l
 | [],_,_,h=>h
 | x::xs,_,hn,⟨l1,l2,e,h1,h2⟩=>by
  simp only[List.all_cons,Bool.and_eq_true] at hn;exact ⟨l1,l2,e,It.sub0_sem hN hs hn.1 h1,NE hN hs hn.2 h2⟩
theorem CT.sub0_sem (hN : ∀ b,N b→N1 b)(hs : ∀ l,(It.sl 0).sem N w g l→i.T N1 w l){c:CT}{v:Value}(hc:c.ok0=true)(h:c.sem N w g v):(c.sub0 i).sem N1 w G0 v:=by
 cases c with
 | one x=>exact It.sub0_sem hN hs hc h
 | ag l=>obtain ⟨vs,e,h1⟩:=h;exact ⟨vs,e,NE hN hs hc h1⟩
theorem Oy (hN : ∀ b,N b→N1 b)(hs : ∀ l,(It.sl 0).sem N w g l→i.T N1 w l) : ∀ {cs:List CT} {vs:List Value},cs.all CT.ok0=true→all2 (CT.sem N w g) cs vs→all2 (CT.sem N1 w G0) (cs.map (CT.sub0 i)) vs
 | [],_,_,h=>h
 | c::cs,_,hn,⟨v,l,e,h1,h2⟩=>by
  simp only[List.all_cons,Bool.and_eq_true] at hn;exact ⟨v,l,e,CT.sub0_sem hN hs hn.1 h1,Oy hN hs hn.2 h2⟩
theorem Q8 {K:Nat→Prop}{k T sz n:Nat}{rows:List (List It0)}(hbox:BoxSem N w g K k ⟨T,some (sz,n),Ad rows⟩)(hn:n=rows.length)(hw : ∀ r∈rows,BU r=sz){l:List Value}(h:(It.sl k).sem N w g l):(slI sz rows).T (fun b=>N b∨AI g k=some b) w l:=by
 obtain ⟨A,c,xs,g1,g2,g3,g4⟩:=hbox.own rfl;have hN : ∀ b,N b→(N b∨AI g k=some b):=fun b hb => .inl hb
 have hkb:AI g k=A.map (·.block):=by unfold AI;rw[g1];cases A <;> rfl
 obtain ⟨A',n',c',e1,e2⟩:=h;rw[g1] at e1;injection e1 with e1;injection e1 with e1 e3 e4;subst e1 e3 e4 hn;rcases g2 with ⟨rfl,h0,rfl,rfl⟩ | ⟨b,cs,rfl,r2,r3,r4,r5,r6,r7⟩
 ·exact ⟨none,0,e2,by omega,by simp[maxLen],fun hr=>absurd (List.eq_nil_of_length_eq_zero h0) hr⟩
 ·refine ⟨_,c,e2,r3,r4,fun _=>⟨b,0,rfl,fun i r hi => ?_⟩⟩
  obtain ⟨k1,k2⟩:=L1 hw (E0 g3);have k3:=k2 i r hi;have hlen:=Fv k3;rw[hw r (List.mem_of_getElem? hi)] at hlen;refine ⟨cs,T,(0,0),_,.inr hkb,r2,?_,E4 (WStep.refl _ _) hN k3⟩;rw[Nat.zero_add,hlen,←r6];have hi':i < rows.length:=(List.getElem?_eq_some_iff.1 hi).1;have hm:i*sz+sz≤rows.length*sz:=by
   have:(i+1)*sz≤rows.length*sz:=Nat.mul_le_mul_right _ hi';rw[Nat.add_mul,Nat.one_mul] at this;exact this
  rw[List.drop_take,List.take_take,Nat.min_eq_left (by omega)]
theorem YL {f:FuncId}{T sz n:Nat}{rows:List (List It0)}{args:List CT}{res res':TV}(h:Sp P I f (args.map (CT.sub0 (slI sz rows))) res)(hn:n=rows.length)(hw : ∀ r∈rows,BU r=sz)(hok:args.all CT.ok0=true)
  (hres : ∀ N N' w v,res.sem N w G0 v→res'.sem N' w G0 v) (hnp:res'.noPtr=true):SpM P I f [(0,some ⟨T,some (sz,n),Ad rows⟩)] args [(0,some ⟨T,some (sz,n),Ad rows⟩)] res':=by
 intro N K w g vs hI hlow hK hbx hinj hg2 hargs;have hbox:=hbx 0 _ rfl;have hc:=h (fun b=>N b∨AI g 0=some b) w vs (I.step (WStep.refl _ _) (fun b hb => .inl hb) hI) (fun b hb=>hb.elim (hlow b) fun hb=>hbox.lt hb) (Oy (fun b hb => .inl hb) (fun l hl=>Q8 hbox hn hw hl) hok hargs)
 refine hc.mono ?_;rintro en w' ⟨v,rfl,hv,hb⟩;refine ⟨v,N,g,rfl,fun _ h=>h,fun b hb => .inl hb,KBelow.of_below hb hK,fun k e he => ?_,hinj,fun _ _ _ h=>h,TV.noPtr_sem hnp (hres _ _ _ _ hv)⟩
 exact (hbx k e he).keep (WStep.of_below hb) (fun _ h=>h) (fun b hb=>(hbx k e he).notN hb) (fun b hb'=>hb.block b ((hbx k e he).lt hb')) (GExt.refl _)
theorem QO {u:Value} : ∀ (N N':Nat→Prop) (w:World) (v:Value),(BF u).sem N w G0 v→(BF u).sem N' w G0 v:=fun _ _ _ _ h=>h
end
abbrev dcl (x:De):List It:=[.i x.1,.i x.2.1,.o x.2.2]
abbrev Ag (x:Int):List It0:=[.lit (.int .i64 x)]
def iat (D:List Int)(i:Nat):Int:=D.getD i 0
theorem XK {D:List Int}{i:Nat}(h:i < D.length):D[i]? = some (iat D i):=by unfold iat;rw[List.getD_eq_getElem?_getD,List.getElem?_eq_getElem h];rfl
theorem Ay {D:List Int}{i:Nat}{f:Int→List It0}(h:i < D.length):(D.map f)[i]? = some (f (iat D i)):=map_some (XK h)
theorem Qo {D:List Int}:okR 1 (D.map Ag):=by
 intro r hr;obtain ⟨x,_,rfl⟩:=List.mem_map.1 hr;exact ⟨rfl,fun y hy=>by simp at hy;subst hy;exact Nat.one_pos⟩
theorem L2 {D:List Int} : ∀ r∈D.map Ag,BU r=1:=by intro r hr;obtain ⟨x,_,rfl⟩:=List.mem_map.1 hr;rfl
theorem Zf {D:List Int}{i:Nat}(h:i < D.length)(x:Int):Ew (Ad (D.map Ag)) (i*1) [.i x]=some (Ad ((D.set i x).map Ag)):=by
 have:=O4 (sz:=1) (r:=Ag (iat D i)) (r':=Ag x) (new:=[.i x]) (Ay (f:=Ag) h) Qo (fo:=0) rfl;rw[←List.map_set] at this;exact this
theorem Zr {D:List Int}{i:Nat}(h:i < D.length):Fs (Ad (D.map Ag)) (i*1) 1=some [.i (iat D i)]:=OG (sz:=1) (r:=Ag (iat D i)) (Ay h) Qo (fo:=0) (n:=1) rfl
theorem Ny (n:Nat):Ad ((List.replicate n (0:Int)).map Ag)=rep n [.i 0]:=by
 induction n with
 | zero=>rfl
 | succ n ih =>
  rw[List.replicate_succ',List.map_append,List.map_singleton,←SD,ih]
  rfl
theorem JL {D:List Int}{i j:Nat}{x:Int}(h:i < D.length):iat (D.set i x) j=if i=j then x else iat D j:=by
 unfold iat;rw[List.getD_eq_getElem?_getD,List.getD_eq_getElem?_getD,List.getElem?_set];by_cases hij:i=j
 ·subst hij;rw[if_pos rfl,if_pos rfl,if_pos h];rfl
 ·rw[if_neg hij,if_neg hij]
theorem F7 (n j:Nat):iat (List.replicate n 0) j=0:=by
 unfold iat;rw[List.getD_eq_getElem?_getD,List.getElem?_replicate];split <;> rfl
def pp (L:List Nd)(m:Nat):Nat:=(tat L (2*m+1)).par.toNat
def dlt (L:List Nd):Nat→List Int
 | 0=>List.replicate L.length 0
 | m+1=>((dlt L m).set (2*m+1) (iat (dlt L m) (pp L m)+1)).set (2*m+2) (iat ((dlt L m).set (2*m+1) (iat (dlt L m) (pp L m)+1)) (2*m+1))
def clt (L:List Nd):Nat→List Int
 | 0=>List.replicate L.length 0
 | m+1=>(clt L m).set (pp L m) (iat (clt L m) (pp L m)+2)
theorem Uc (L:List Nd) : ∀ m,(dlt L m).length=L.length
 | 0=>by rw[dlt,List.length_replicate]
 | m+1=>by rw[dlt,List.length_set,List.length_set,Uc L m]
theorem Gf (L:List Nd) : ∀ m,(clt L m).length=L.length
 | 0=>by rw[clt,List.length_replicate]
 | m+1=>by rw[clt,List.length_set,Gf L m]
theorem RQ {D:List Int}{i:Nat}{x lo hi:Int}(h : ∀ j,lo≤iat D j∧iat D j≤hi)(hx:lo≤x∧x≤hi) : ∀ j,lo≤iat (D.set i x) j∧iat (D.set i x) j≤hi:=by
 intro j;by_cases hi:i < D.length
 ·rw[JL hi]
  split
  ·exact hx
  ·exact h j
 ·rw[List.set_eq_of_length_le (by omega)];exact h j
theorem Acj (L:List Nd) : ∀ m j,0≤iat (dlt L m) j∧iat (dlt L m) j≤(m:Int)
 | 0,j=>by rw[dlt,F7];omega
 | m+1,j=>by
  have h:=Acj L m;have h1 : ∀ j,0≤iat (dlt L m) j∧iat (dlt L m) j≤((m+1:Nat):Int):=fun j=>⟨(h j).1,by have:=(h j).2;omega⟩
  have h2:=RQ (i:=2*m+1) (x:=iat (dlt L m) (pp L m)+1) h1 ⟨by have:=(h (pp L m)).1;omega,by have:=(h (pp L m)).2;omega⟩
  rw[dlt];exact RQ h2 (h2 _) j
theorem SS (L:List Nd) : ∀ m j,0≤iat (clt L m) j∧iat (clt L m) j≤2*(m:Int)
 | 0,j=>by rw[clt,F7];omega
 | m+1,j=>by
  have h:=SS L m;have h1 : ∀ j,0≤iat (clt L m) j∧iat (clt L m) j≤2*((m+1:Nat):Int):=fun j=>⟨(h j).1,by have:=(h j).2;omega⟩
  rw[clt];exact RQ h1 ⟨by have:=(h (pp L m)).1;omega,by have:=(h (pp L m)).2;omega⟩ j
def prB (L:List Nd)(m:Nat):Bool :=
 decide ((tat L (2*m+1)).par=(tat L (2*m+2)).par)&&decide (0≤(tat L (2*m+1)).par)&&decide ((tat L (2*m+1)).par < 2*(m:Int)+1) &&
 decide (dcn (tat L (2*m+1))=((tat L (2*m+1)).fst,(tat L (2*m+1)).nxt,true))&&decide (dcn (tat L (2*m+2))=((tat L (2*m+1)).fst,(tat L (2*m+1)).nxt,false)) &&
 decide (0≤(tat L (2*m+1)).fst)&&decide (0≤(tat L (2*m+1)).nxt)&&decide (¬ (tat L (2*m+1)).fst=(tat L (2*m+1)).nxt)
def spB (L:List Nd)(m:Nat):Bool :=
 decide (iat (dlt L (m+1)) (2*m+1)≤32)&&decide (iat (clt L (m+1)) (pp L m)≤2) && !MN L (pp L m) (tat L (2*m+1)).fst (tat L (2*m+1)).nxt &&
 decide ((tat L (pp L m)).q≤(tat L (2*m+1)).q)&&decide ((tat L (pp L m)).q≤(tat L (2*m+2)).q)
def rtB (L:List Nd):Bool:=decide ((tat L 0).par = -1)&&decide (dcn (tat L 0)=(0,0,false))&&decide (L.length % 2=1)
def chB (L:List Nd)(i:Nat):Bool:=decide ((tat L i).st=1) == decide (0 < iat (clt L (L.length / 2)) i)
def shB (L:List Nd):Bool:=rtB L&&((List.range (L.length / 2)).all fun m=>prB L m&&spB L m)&&(List.range L.length).all (chB L)
theorem SK {L:List Nd}{m:Nat}(h : ∀ x,x < m→prB L x=true):Dn L (2*m):=by
 intro i h0 hi;obtain ⟨x,hx⟩ : ∃ x,i=2*x+1∨i=2*x+2:=⟨(i - 1) / 2,by omega⟩
 have hp:=h x (by omega)
 unfold prB at hp;simp only[Bool.and_eq_true,decide_eq_true_eq] at hp;obtain ⟨⟨⟨⟨⟨⟨⟨p1,p2⟩,p3⟩,_⟩,_⟩,_⟩,_⟩,_⟩:=hp;rcases hx with rfl | rfl
 ·exact ⟨p2,by omega⟩
 ·exact ⟨by omega,by omega⟩
theorem Y7 {a b:Rat}(h : ¬ b≤a):decide (FF a b < 0)=true:=by
 unfold FF;rw[if_pos (by grind)];rfl
theorem VM {a b:Rat}(h:b≤a):decide (FF a b < 0)=false:=by
 unfold FF;rw[if_neg (by grind)]
 split <;> rfl
section
variable {I:WInv}{c:Bool}
theorem Of (ok:Nat→Bool) : ∀ M,(∀ x,x < M→ok x=true) ∨ ∃ i,i < M∧(∀ x,x < i→ok x=true)∧ok i=false
 | 0 => .inl fun x hx=>by omega
 | M+1=>by
  rcases Of ok M with h | ⟨i,h1,h2,h3⟩
  ·cases hM:ok M with
   | true =>
    refine .inl fun x hx => ?_
    by_cases e:x=M
    ·rw[e];exact hM
    ·exact h x (by omega)
   | false=>exact .inr ⟨M,by omega,h,hM⟩
  ·exact .inr ⟨i,by omega,h2,h3⟩
end
def CE (L:List Nd)(i:Nat):Int:=if (tat L i).st < 0∨2 < (tat L i).st then 5 else if okc (tat L i).q then 0 else 5
def UL (L:List Nd)(f:Bool)(z:Int)(i:Nat):Int:=if (tat L i).st=1 then 0 else if decide ((tat L i).st=2)=FL f z (tat L i).q then 0 else 16
def tvc (L:List Nd)(f:Bool)(z:Int):Int :=
 if L.length < 1∨2000 < L.length then 10 else if BS z=false∨(z≠0∧f=false) then 5 else if AT (CE L) L.length 0≠0 then AT (CE L) L.length 0 else if shB L=false then 12 else AT (UL L f z) L.length 0
section
variable {I:WInv}{c:Bool}
theorem AbP {L:List Nd}{i:Nat}(h:CE L i≠0):CE L i=5:=by
 unfold CE at h ⊢;split
 ·rfl
 ·rename_i h1
  rw[if_neg h1] at h;split
  ·rename_i h2;rw[if_pos h2] at h;exact absurd rfl h
  ·rfl
end
theorem LS {L : List Nd} {f : Bool} {z : Int} (h : tvc L f z = 0) : 1 ≤ L.length ∧ L.length ≤ 2000 ∧ BS z = true ∧ (z = 0 ∨ f = true) ∧ AT (CE L) L.length 0 = 0 ∧ shB L = true ∧ AT (UL L f z) L.length 0 = 0 := by
 unfold tvc at h;by_cases h1:L.length < 1∨2000 < L.length
 ·rw[if_pos h1] at h;omega
 ·rw [if_neg h1] at h
  by_cases h2:BS z=false∨(z≠0∧f=false)
  ·rw[if_pos h2] at h;omega
  ·rw [if_neg h2] at h
   by_cases h3:AT (CE L) L.length 0≠0
   ·rw[if_pos h3] at h;exact absurd h h3
   ·rw[if_neg h3] at h
    by_cases h4:shB L=false
    ·rw[if_pos h4] at h;omega
    ·rw[if_neg h4] at h
     refine ⟨by omega,by omega,?_,?_,by omega,by simpa using h4,h⟩
     ·cases hc:BS z with
      | true=>rfl
      | false=>exact absurd (.inl hc) h2
     ·by_cases hz:z=0
      ·exact .inl hz
      ·cases f with
       | true=>exact .inr rfl
       | false=>exact absurd (.inr ⟨hz,rfl⟩) h2
theorem Wy {L:List Nd}(h:shB L=true):L.length % 2=1∧Dn L (L.length - 1):=by
 unfold shB rtB at h;simp only[Bool.and_eq_true,List.all_eq_true,List.mem_range,decide_eq_true_eq] at h;obtain ⟨⟨⟨_,h1⟩,h2⟩,_⟩:=h;refine ⟨h1,?_⟩;have:=SK (L:=L) (m:=L.length / 2) fun x hx=>(h2 x hx).1
 rw[show L.length - 1=2*(L.length / 2) by omega]
 exact this
section
variable {P:Program}{I:WInv}{N:Nat→Prop}{w:World}
def It.fz (i:Item):It→It
 | .sl _ => .b (.it i)
 | x=>x
def CT.fz (i:Item):CT→CT
 | .one x => .one (x.fz i)
 | .ag l => .ag (l.map (It.fz i))
def TV.fz (i:Item):TV→TV
 | .cv c => .cv (c.fz i)
 | .tu l => .tu (l.map (CT.fz i))
def It.ok2:It→Bool
 | .sl k=>Nat.beq k 2
 | .ptr _ _=>false
 | .clo _ _=>false
 | _=>true
def CT.ok2:CT→Bool
 | .one x=>x.ok2
 | .ag l=>l.all It.ok2
def TV.ok2:TV→Bool
 | .cv c=>c.ok2
 | .tu l=>l.all CT.ok2
variable {N1:Nat→Prop}{g:Gh}{i:Item}
theorem It.fz_sem (hN : ∀ b,N b→N1 b)(hs : ∀ l,(It.sl 2).sem N w g l→i.T N1 w l){x:It}{l:List Value}(hx:x.ok2=true)(h:x.sem N w g l):(x.fz i).sem N1 w G0 l:=by
 cases x with
 | b x=>exact It0.step h (WStep.refl _ _) hN
 | ptr k off=>cases hx
 | clo f p=>cases hx
 | fp x=>obtain ⟨b,off,h1,h2⟩:=h;exact ⟨b,off,h1,h2.step (WStep.refl _ _) hN⟩
 | sl k =>
  have:=Nat.eq_of_beq_eq_true hx;subst this;exact hs l h
theorem Tu (hN : ∀ b,N b→N1 b)(hs : ∀ l,(It.sl 2).sem N w g l→i.T N1 w l) : ∀ {xs:List It} {l:List Value},xs.all It.ok2=true→Bt N w g xs l→Bt N1 w G0 (xs.map (It.fz i)) l
 | [],_,_,h=>h
 | x::xs,_,hn,⟨l1,l2,e,h1,h2⟩=>by
  simp only[List.all_cons,Bool.and_eq_true] at hn;exact ⟨l1,l2,e,It.fz_sem hN hs hn.1 h1,Tu hN hs hn.2 h2⟩
theorem CT.fz_sem (hN : ∀ b,N b→N1 b)(hs : ∀ l,(It.sl 2).sem N w g l→i.T N1 w l){c:CT}{v:Value}(hc:c.ok2=true)(h:c.sem N w g v):(c.fz i).sem N1 w G0 v:=by
 cases c with
 | one x=>exact It.fz_sem hN hs hc h
 | ag l=>obtain ⟨vs,e,h1⟩:=h;exact ⟨vs,e,Tu hN hs hc h1⟩
theorem Us (hN : ∀ b,N b→N1 b)(hs : ∀ l,(It.sl 2).sem N w g l→i.T N1 w l) : ∀ {cs:List CT} {vs:List Value},cs.all CT.ok2=true→all2 (CT.sem N w g) cs vs→all2 (CT.sem N1 w G0) (cs.map (CT.fz i)) vs
 | [],_,_,h=>h
 | c::cs,_,hn,⟨v,l,e,h1,h2⟩=>by
  simp only[List.all_cons,Bool.and_eq_true] at hn;exact ⟨v,l,e,CT.fz_sem hN hs hn.1 h1,Us hN hs hn.2 h2⟩
theorem TV.fz_sem (hN : ∀ b,N b→N1 b)(hs : ∀ l,(It.sl 2).sem N w g l→i.T N1 w l){c:TV}{v:Value}(hc:c.ok2=true)(h:c.sem N w g v):(c.fz i).sem N1 w G0 v:=by
 cases c with
 | cv x=>exact CT.fz_sem hN hs hc h
 | tu l=>obtain ⟨vs,e,h1⟩:=h;exact ⟨vs,e,Us hN hs hc h1⟩
theorem Vm {K:Nat→Prop}{k T sz n:Nat}{rows:List (List It0)}(hbox:BoxSem N w g K k ⟨T,some (sz,n),Ad rows⟩)(hn:n=rows.length)(hw : ∀ r∈rows,BU r=sz){l:List Value}(h:(It.sl k).sem N w g l):(slI sz rows).T (fun b=>N b∨AI g k=some b) w l:=Q8 hbox hn hw h
theorem SpM.freeze {f:FuncId}{args:List CT}{res:TV}{T sz n:Nat}{rows:List (List It0)}(h:SpM P I f [] args [(2,some ⟨T,some (sz,n),Ad rows⟩)] res)(hn:n=rows.length)(hw : ∀ r∈rows,BU r=sz)(hok:res.ok2=true):Sp P I f args (res.fz (slI sz rows)):=by
 intro N w vs hI hlow hargs;refine (h N (fun b=>b < w.heap.size) w G0 vs hI hlow (fun b hb=>hb) (fun k e he=>by cases he) (fun k j e e' b he=>by cases he) (fun k _=>rfl) hargs).mono ?_
 rintro en w' ⟨v,N',g',rfl,q1,q2,q3,q4,q5,q6,q7⟩;have hbox:=q4 2 _ rfl;refine ⟨v,rfl,?_,LF q3⟩;have hx:=TV.fz_sem (N:=N') (N1:=fun b=>N' b∨AI g' 2=some b) (i:=slI sz rows) (fun b hb => .inl hb) (fun l hl=>Vm hbox hn hw hl) hok q7
 refine TV.step hx (WStep.refl _ _) ?_ (GExt.refl _);rintro b (hb | hb)
 ·rcases q2 b hb with hb | ⟨hb1,hb2⟩
  ·exact .inl hb
  ·exact .inr ⟨Nat.not_lt.1 hb1,hb2⟩
 ·obtain ⟨cs,m,h1,_,_,h4,h5,_⟩:=hbox.at hb
  exact .inr ⟨Nat.not_lt.1 h5,(Array.getElem?_eq_some_iff.1 h1).1⟩
end
section
variable {P:Program}{I:WInv}
theorem Qn {N:Nat→Prop}{w:World}{b sz:Nat}{cs:Array Value}{T:TypeId}{fr:Nat×Nat}(hb:w.heap[b]? = some (.cells cs T fr)) : ∀ (rows:List (List It0)) (off:Nat),(∀ r∈rows,BU r=sz)→(∀ i r,rows[i]? = some r→RowAt N w b (off+i*sz) r) → ∃ vs:List Value,vs.length=rows.length*sz∧Dp N w rows.flatten vs∧(cs.toList.drop off).take vs.length=vs
 | [],off,_,_=>⟨[],by simp,rfl,by simp⟩
 | r::rows,off,hw,h=>by
  obtain ⟨cs',T',fr',us,_,h2,h3,h4⟩:=h 0 r rfl;rw[hb] at h2;injection h2 with h2;injection h2 with e1 e2 e3;subst e1;rw[Nat.zero_mul,Nat.add_zero] at h3;have hl:=Fv h4;rw[hw r (by simp)] at hl
  obtain ⟨vs,k1,k2,k3⟩:=Qn hb rows (off+sz) (fun q hq=>hw q (by simp[hq])) fun i q hi=>by
   have:=h (i+1) q (by simpa using hi)
   rw[Nat.add_mul,Nat.one_mul] at this;rw[show off+sz+i*sz=off+(i*sz+sz) by omega];exact this
  refine ⟨us++vs,by rw[List.length_append,hl,k1,List.length_cons,Nat.add_mul];omega,?_,?_⟩
  ·have app : ∀ {xs ys:List It0} {l1 l2:List Value},Dp N w xs l1→Dp N w ys l2→Dp N w (xs++ys) (l1++l2):=by
    intro xs;induction xs with
    | nil=>intro ys l1 l2 a b;rw[show l1=[] from a];exact b
    | cons x xs ih=>rintro ys l1 l2 ⟨p,q,e,a1,a2⟩ b;exact ⟨p,q++l2,by rw[e,List.append_assoc],a1,ih a2 b⟩
   exact app h4 k2
  ·rw[List.length_append,List.take_add,h3,List.drop_drop,hl,k3]
theorem BG {sz:Nat}{rows:List (List It0)}(hw : ∀ r∈rows,BU r=sz)(hok:(rows.flatten.map It.b).all It.okB=true):Uu sz (slI sz rows) rows.length rows.flatten:=by
 rintro N w l ⟨A,c,e,h1,h2,h3⟩;by_cases hne:rows=[]
 ·subst hne
  cases A with
  | none=>exact ⟨none,c,e,.inl ⟨rfl,rfl,rfl⟩⟩
  | some a=>exact ⟨some a,c,e,.inr ⟨a,[],rfl,by simp,rfl,by simp,by simp⟩⟩
 obtain ⟨b,off,rfl,hr⟩:=h3 hne;obtain ⟨r0,rs,hrows⟩:=List.exists_cons_of_ne_nil hne;obtain ⟨cs,T,fr,_,_,hb,_,_⟩:=hr 0 r0 (by rw[hrows];rfl)
 obtain ⟨vs,k1,k2,k3⟩:=Qn hb rows off hw hr;refine ⟨_,c,e,.inr ⟨_,vs,rfl,k1,k2,D9 (g:=G0) (Di k2) hok,?_⟩⟩;intro j u hj;rw[D3];have hj':=hj;rw[←k3,List.getElem?_take] at hj;split at hj
 ·rw[List.getElem?_drop] at hj
  simp only[World.cell?,hb];simpa using hj
 ·cases hj
theorem P4 (w:World)(d:Nat){t e:TypeId}{a:Addr}{n c:Nat}(ht:P.underlying t=some (.slice e)):(Op.equalIn (d+1) t (.slice (some a) n c) (.slice none 0 0)).run P w = .ok false w:=by
 simp[Op.equalIn,AL ht]
end
theorem OM {c:Bool}{L:List Nd}:okR 9 (L.map (Al c)):=by
 intro r hr;obtain ⟨x,_,rfl⟩:=List.mem_map.1 hr;refine ⟨rfl,fun y hy => ?_⟩
 simp at hy;rcases hy with rfl | rfl | rfl | rfl | rfl | rfl <;> first | exact Nat.one_pos | exact (by decide:0 < 4)
theorem OL {c:Bool}{L:List Nd} : ∀ r∈L.map (Al c),BU r=9:=fun r hr=>(OM r hr).1
theorem Ey {c:Bool}{L:List Nd}{i fo n:Nat}{m:List It}(h:i < L.length)(hs:Fs ((Al c (tat L i)).map It.b) fo n=some m):Fs (Ad (L.map (Al c))) (i*9+fo) n=some m:=OG (Bg h) OM hs
theorem RK {c:Bool}{L:List Nd}{i fo:Nat}{new:List It}(h:i < L.length)(y:Nd)(hu:Ew ((Al c (tat L i)).map It.b) fo new=some ((Al c y).map It.b)):Ew (Ad (L.map (Al c))) (i*9+fo) new=some (Ad ((L.set i y).map (Al c))):=by
 have:=O4 (sz:=9) (Bg (f:=Al c) h) OM hu;rw[←List.map_set] at this;exact this
structure Ch where
 kind:Int
 node:Int
 q:Rat
 fst:Int
 nxt:Int
 cost:Int
abbrev chT (c:Bool)(x:Ch):CT := .ag [.i x.kind,.i x.node,.b (.it (fF c 12 x.q)),.i x.fst,.i x.nxt,.i x.cost]
abbrev nbx (c:Bool)(L:List Nd)(n:Nat):Ent:=⟨103,some (9,n),Ad (L.map (Al c))⟩
theorem OC {L:List Nd}{i j:Nat}{y:Nd}(h:i < L.length):tat (L.set i y) j=if i=j then y else tat L j:=by
 unfold tat;rw[List.getD_eq_getElem?_getD,List.getD_eq_getElem?_getD,List.getElem?_set];by_cases hij:i=j
 ·subst hij;rw[if_pos rfl,if_pos rfl,if_pos h];rfl
 ·rw[if_neg hij,if_neg hij]
theorem Wj {L M:List Nd}{i:Nat}(h:i < L.length):tat (L++M) i=tat L i:=by
 unfold tat;rw[List.getD_eq_getElem?_getD,List.getD_eq_getElem?_getD,List.getElem?_append_left h]
def raE (L:List Nd)(x:Ch):Int:=if x.node < 0∨(L.length:Int)≤x.node then 5 else if okc x.q=false then 5 else if (tat L x.node.toNat).st≠0 then 16 else 0
def raL (L:List Nd)(x:Ch):List Nd:=if (tat L x.node.toNat).q < x.q then L.set x.node.toNat ⟨(tat L x.node.toNat).par,(tat L x.node.toNat).fst,(tat L x.node.toNat).nxt,(tat L x.node.toNat).tog,x.q,(tat L x.node.toNat).st⟩ else L
def fiE (x:Ch):Int:=if BS x.cost then 0 else 5
def spE (L:List Nd)(x:Ch):Int:=if x.node < 0∨(L.length:Int)≤x.node∨x.fst < 0∨x.nxt < 0∨x.fst=x.nxt then 5 else if (tat L x.node.toNat).st≠0 then 16 else if 2000 < L.length+2∨32≤(Bh L x.node.toNat).length then 10 else if MN L x.node.toNat x.fst x.nxt then 20 else 0
def kid (L:List Nd)(x:Ch)(b:Bool):Nd:=⟨x.node,x.fst,x.nxt,b,(tat L x.node.toNat).q,0⟩
def FV (L:List Nd)(i:Nat):List Nd:=L.set i ⟨(tat L i).par,(tat L i).fst,(tat L i).nxt,(tat L i).tog,(tat L i).q,1⟩
def spL (L:List Nd)(x:Ch):List Nd:=FV L x.node.toNat++[kid L x true,kid L x false]
theorem Y8 {a b:Rat}(h:b < a):decide (FF a b > 0)=true:=by
 unfold FF;rw[if_neg (by grind),if_neg (by grind)];rfl
theorem Y9 {a b:Rat}(h : ¬ b < a):decide (FF a b > 0)=false:=by
 unfold FF;by_cases h1:a < b
 ·rw[if_pos h1];rfl
 ·rw[if_neg h1,if_pos (by grind)];rfl
section
variable {I:WInv}{c c':Bool}
def fnF (f:Bool)(z:Int)(x:Ch):Bool×Int:=if f=false∨x.cost < z then (true,x.cost) else (f,z)
end
section
variable {I:WInv}{c c':Bool}
theorem M0 (L:List Nd)(i:Nat):(FV L i).length=L.length:=List.length_set
theorem X1 {L:List Nd}{i:Nat}(h:i < L.length)(j:Nat):(tat (FV L i) j).q=(tat L j).q:=by
 unfold FV;rw[OC h];split
 ·rename_i e;rw[e]
 ·rfl
end
def clN (f:Bool)(z:Int)(x:Nd):Nd:=if x.st=0∧FL f z x.q=true then ⟨x.par,x.fst,x.nxt,x.tog,x.q,2⟩ else x
def clL (L:List Nd)(f:Bool)(z:Int):List Nd:=L.map (clN f z)
def clP (L:List Nd)(f:Bool)(z:Int):Nat→List Nd
 | 0=>L
 | i+1=>if (tat (clP L f z i) i).st=0∧FL f z (tat (clP L f z i) i).q=true then (clP L f z i).set i ⟨(tat (clP L f z i) i).par,(tat (clP L f z i) i).fst,(tat (clP L f z i) i).nxt,(tat (clP L f z i) i).tog,(tat (clP L f z i) i).q,2⟩ else clP L f z i
theorem Kb (L:List Nd)(f:Bool)(z:Int) : ∀ i,(clP L f z i).length=L.length
 | 0=>rfl
 | i+1=>by
  rw[clP];split
  ·rw[List.length_set,Kb L f z i]
  ·exact Kb L f z i
theorem P9 (L : List Nd) (f : Bool) (z : Int) : ∀ i, i ≤ L.length → ∀ j, (clP L f z i)[j]? = if j < i then (L[j]?).map (clN f z) else L[j]?
 | 0,_,j=>by rw[if_neg (by omega)];rfl
 | i+1,hi,j=>by
  have ih:=P9 L f z i (by omega)
  have hl:=Kb L f z i;have e:tat (clP L f z i) i=tat L i:=by unfold tat;rw[List.getD_eq_getElem?_getD,List.getD_eq_getElem?_getD,ih,if_neg (by omega)]
  have hg:L[i]? = some (tat L i):=CZ (by omega)
  rw[clP,e];by_cases hc:(tat L i).st=0∧FL f z (tat L i).q=true
  ·rw[if_pos hc,List.getElem?_set]
   by_cases hij:i=j
   ·subst hij
    rw[if_pos rfl,if_pos (by omega),if_pos (by omega),hg]
    show some _=some (clN f z (tat L i));unfold clN;rw[if_pos hc]
   ·rw[if_neg hij,ih]
    by_cases h:j < i
    ·rw[if_pos h,if_pos (by omega)]
    ·rw[if_neg h,if_neg (by omega)]
  ·rw[if_neg hc,ih]
   by_cases h:j < i
   ·rw[if_pos h,if_pos (by omega)]
   ·rw[if_neg h]
    by_cases hij:j=i
    ·subst hij
     rw[if_pos (by omega),hg]
     show some _=some (clN f z (tat L j));unfold clN;rw[if_neg hc]
    ·rw[if_neg (by omega)]
theorem Aa0 (L:List Nd)(f:Bool)(z:Int):clP L f z L.length=clL L f z:=by
 apply List.ext_getElem?;intro j;unfold clL;rw[P9 L f z _ (Nat.le_refl _),List.getElem?_map];by_cases h:j < L.length
 ·rw[if_pos h]
 ·rw[if_neg h,List.getElem?_eq_none (by omega)];rfl
theorem Add {L:List Nd}{n:Nat}(f:Bool)(z:Int)(hn:L.length=n):clP L f z n=clL L f z:=by rw[←hn,Aa0]
section
variable {I:WInv}{c c':Bool}
def chE (L:List Nd)(x:Ch):Int:=if x.kind=1 then raE L x else if x.kind=2 then spE L x else if x.kind=3 then fiE x else 5
def chM (L:List Nd)(f:Bool)(z:Int)(x:Ch):List Nd×Bool×Int:=if x.kind=1 then (raL L x,f,z) else if x.kind=2 then (spL L x,f,z) else (L,fnF f z x)
def chS (L:List Nd)(f:Bool)(z:Int)(x:Ch):List Nd×Bool×Int:=(clL (chM L f z x).1 (chM L f z x).2.1 (chM L f z x).2.2,(chM L f z x).2)
end
theorem Va {α:Type}(L:List Nd)(g:Nd→α):((List.range L.length).map fun j=>g (tat L j))=L.map g:=by
 apply List.ext_getElem?;intro j;rw[List.getElem?_map,List.getElem?_map];by_cases h:j < L.length
 ·rw[List.getElem?_range h,CZ h];rfl
 ·rw[List.getElem?_eq_none (by simpa using h),List.getElem?_eq_none (by omega)];rfl
section
variable {I:WInv}{c c':Bool}
def apC (L:List Nd)(f:Bool)(z:Int)(x:Ch):Int:=if tvc L f z≠0 then tvc L f z else chE L x
def apS (L:List Nd)(f:Bool)(z:Int)(x:Ch):List Nd×Bool×Int:=if apC L f z x=0 then chS L f z x else ([],false,0)
theorem Ac9:CTle (.ag [.z,.o false,.i 0]) (trT true [] false 0):=ILe.ag (ILe.cons (fun N w g l hl=>by
 have hl:l=[.slice none 0 0]:=hl;subst hl;exact ⟨none,0,rfl,Nat.le_refl _,by simp[maxLen],fun h=>absurd rfl h⟩) ILe.refl)
theorem Sp.errT {P:Program}{g:FuncId}{args:List CT}{r:CT}(h:Sp P I g args (.tu [.ag [.z,.o false,.i 0],r])):Sp P I g args (.tu [trT true [] false 0,r]):=h.rs (KS ⟨Ac9,CTle.refl,trivial⟩)
theorem Ug (L:List Nd)(f:Bool)(z:Int)(x:Ch):(chM L f z x).1.length=if x.kind=2 then L.length+2 else L.length:=by
 unfold chM;by_cases k1:x.kind=1
 ·rw[if_pos k1,if_neg (by omega)]
  unfold raL
  dsimp only
  split
  ·rw[List.length_set]
  ·rfl
 ·rw[if_neg k1]
  by_cases k2:x.kind=2
  ·rw[if_pos k2,if_pos k2]
   unfold spL;rw[List.length_append,M0];rfl
  ·rw[if_neg k2,if_neg k2]
theorem Aa6 (L:List Nd)(f:Bool)(z:Int)(x:Ch):(chS L f z x).1.length=if x.kind=2 then L.length+2 else L.length:=by
 unfold chS clL;rw[List.length_map,Ug]
def Hn (q:Rat):List Nd:=[⟨-1,0,0,false,q,0⟩]
end
abbrev Bo (x:Bool):List It0:=[.lit (.bool x)]
def bat (D:List Bool)(i:Nat):Bool:=D.getD i false
theorem YQ {D:List Bool}{i:Nat}(h:i < D.length):D[i]? = some (bat D i):=by unfold bat;rw[List.getD_eq_getElem?_getD,List.getElem?_eq_getElem h];rfl
theorem AaB {D:List Bool}{i:Nat}{f:Bool→List It0}(h:i < D.length):(D.map f)[i]? = some (f (bat D i)):=map_some (YQ h)
theorem Ty {D:List Bool} : ∀ r∈D.map Bo,BU r=1:=by intro r hr;obtain ⟨x,_,rfl⟩:=List.mem_map.1 hr;rfl
def Au (L:List Nd):List Int:=L.map (·.par)
def AD (L:List Nd):List De:=L.map dcn
def BY (L:List Nd):List Bool:=L.map fun x=>decide (x.st=1)
theorem JA {L:List Nd}{i:Nat}(h:i < L.length):iat (Au L) i=(tat L i).par:=by unfold iat Au;rw[List.getD_eq_getElem?_getD,List.getElem?_map,CZ h];rfl
theorem JW {L:List Nd}{i:Nat}(h:i < L.length):dat (AD L) i=dcn (tat L i):=by unfold dat AD;rw[List.getD_eq_getElem?_getD,List.getElem?_map,CZ h];rfl
theorem FK {L:List Nd}{i:Nat}(h:i < L.length):bat (BY L) i=decide ((tat L i).st=1):=by unfold bat BY;rw[List.getD_eq_getElem?_getD,List.getElem?_map,CZ h];rfl
theorem Db (L:List Nd):(Au L).length=L.length:=List.length_map _
theorem EL (L:List Nd):(AD L).length=L.length:=List.length_map _
theorem Gu (L:List Nd):(BY L).length=L.length:=List.length_map _
def Cg {α:Type}(L:List Nd)(g:Nd→α)(i:Nat):List α:=(List.range i).map fun j=>g (tat L j)
theorem DC {α:Type}(L:List Nd)(g:Nd→α)(i:Nat):Cg L g (i+1)=Cg L g i++[g (tat L i)]:=by unfold Cg;rw[List.range_succ,List.map_append];rfl
theorem EG {α:Type}(L:List Nd)(g:Nd→α):Cg L g L.length=L.map g:=Va L g
section
variable {I:WInv}{c c':Bool}
def X3 (c:Bool)(L:List Nd)(f:Bool)(z:Int)(i:Nat):Go.Proofs.YtdgbealknnmkoaaGreatDoor.St:=⟨[(1,.p 0 0),(5,.s 40),(6,.s 41),(7,.s 42),(8,.i (i:Int))],[(40,some ⟨3,some (1,i),Ad ((Cg L (·.par) i).map Ag)⟩),(41,some ⟨101,some (3,i),Ad ((Cg L dcn i).map AG)⟩),(42,some ⟨4,some (1,i),Ad ((Cg L (fun x=>decide (x.st=1)) i).map Bo)⟩),(0,some ⟨46,none,[.b (.it (slI 9 ((L).map (Al c)))),.o f,.i z]⟩)],50⟩
theorem QQ (L:List Nd)(f:Bool)(z:Int)(i:Nat)(hi:i < L.length)(hl:L.length≤2002):Rnd Tryz.prog I 47 (Bj Tryz.prog 75 0) (X3 c L f z i) .normal (X3 c L f z (i+1)):=by
 exact Rnd.nam [(40,63),(41,72),(42,82)] (show Rnd _ _ _ _ _ _ ⟨[(1,.p 0 0),(5,.s 63),(6,.s 72),(7,.s 82),(8,.i ((i+1:Nat):Int))],[(63,some ⟨3,some (1,i+1),(Ad ((Cg L (·.par) i).map Ag))++([.i ((tat L i).par)])⟩),(72,some ⟨101,some (3,i+1),(Ad ((Cg L dcn i).map AG))++([.i ((tat L i).fst),.i ((tat L i).nxt),.o ((tat L i).tog)])⟩),(82,some ⟨4,some (1,i+1),(Ad ((Cg L (fun x=>decide (x.st=1)) i).map Bo))++([.o (decide (((tat L i).st)=1))])⟩),(0,some ⟨46,none,[.b (.it (slI 9 ((L).map (Al c)))),.o f,.i z]⟩)],89⟩ from rr [pk (AK 44 103 3 9 ((L).map (Al c)) ((L).length:Int)),pk (As 3 (i:Int) ((L).length:Int)),pk (Ah 44 103 9 ((L).map (Al c)) i (i:Int) ((Al c) (tat L i)) (Bg hi)),⟨.ap i 1 8,⟨by omega,by simp[maxLen];omega⟩⟩,pk (Ah 44 103 9 ((L).map (Al c)) i (i:Int) ((Al c) (tat L i)) (Bg hi)),⟨.ap i 1 24,⟨by omega,by simp[maxLen];omega⟩⟩,pk (Ah 44 103 9 ((L).map (Al c)) i (i:Int) ((Al c) (tat L i)) (Bg hi)),pk (Ba 3 ((tat L i).st) 1 (decide (((tat L i).st)=1)) rfl),⟨.ap i 1 1,⟨by omega,by simp[maxLen];omega⟩⟩,pk (Az 3 (i:Int) 1 ⟨by omega,by omega⟩)]) (t:=⟨[(1,.p 0 0),(5,.s 40),(6,.s 41),(7,.s 42),(8,.i ((i+1:Nat):Int))],[(40,some ⟨3,some (1,i+1),Ad ((Cg L (·.par) (i+1)).map Ag)⟩),(41,some ⟨101,some (3,i+1),Ad ((Cg L dcn (i+1)).map AG)⟩),(42,some ⟨4,some (1,i+1),Ad ((Cg L (fun x=>decide (x.st=1)) (i+1)).map Bo)⟩),(0,some ⟨46,none,[.b (.it (slI 9 ((L).map (Al c)))),.o f,.i z]⟩)],50⟩) ⟨rfl,TVle.refl,rfl,TVle.refl,rfl,TVle.refl,rfl,TVle.refl,rfl,TVle.refl,trivial⟩ ⟨rfl,rfl,rfl,ILe.eq (show (Ad ((Cg L (·.par) i).map Ag))++([.i ((tat L i).par)])=Ad ((Cg L (·.par) (i+1)).map Ag) from (by rw[DC,List.map_append,C2];rfl)),rfl,rfl,rfl,ILe.eq (show (Ad ((Cg L dcn i).map AG))++([.i ((tat L i).fst),.i ((tat L i).nxt),.o ((tat L i).tog)])=Ad ((Cg L dcn (i+1)).map AG) from (by rw[DC,List.map_append,C2];rfl)),rfl,rfl,rfl,ILe.eq (show (Ad ((Cg L (fun x=>decide (x.st=1)) i).map Bo))++([.o (decide (((tat L i).st)=1))])=Ad ((Cg L (fun x=>decide (x.st=1)) (i+1)).map Bo) from (by rw[DC,List.map_append,C2];rfl)),rfl,rfl,rfl,ILe.refl,trivial⟩
theorem Vv (L:List Nd)(f:Bool)(z:Int):Leads I 47 ⟨[(1,.p 0 0),(5,.cv (.one (.z))),(6,.cv (.one (.z))),(7,.cv (.one (.z))),(8,.i 0)],[(0,some ⟨46,none,[.b (.it (slI 9 ((L).map (Al c)))),.o f,.i z]⟩)],47⟩ (X3 c L f z 0) :=
 (EC (t:=5) (k:=40) 3 1 rfl rfl rfl).trans ((EC (t:=6) (k:=41) 101 3 rfl rfl rfl).trans ((EC (t:=7) (k:=42) 4 1 rfl rfl rfl).trans (FP ⟨rfl,rfl,rfl,rfl,rfl,trivial⟩ ⟨rfl,rfl,rfl,rfl,trivial⟩)))
theorem Sy (L:List Nd)(f:Bool)(z:Int)(n:Nat)(hn:L.length=n)(hl:n≤2002):LoopTr Tryz.prog I 47 (Bj Tryz.prog 75 0) ⟨[(1,.p 0 0),(5,.cv (.one (.z))),(6,.cv (.one (.z))),(7,.cv (.one (.z))),(8,.i 0)],[(0,some ⟨46,none,[.b (.it (slI 9 ((L).map (Al c)))),.o f,.i z]⟩)],47⟩ (.exit 0) ⟨[(5,.s 40),(6,.s 41),(7,.s 42)],[(40,some ⟨3,some (1,n),Ad ((Au L).map Ag)⟩),(41,some ⟨101,some (3,n),Ad ((AD L).map AG)⟩),(42,some ⟨4,some (1,n),Ad ((BY L).map Bo)⟩)],50⟩:=by
 refine LoopTr.pre (Vv L f z) (Ck (by simp) (fun i=>X3 c L f z i) n (fun i hi=>QQ L f z i (by omega) (by omega)) ?_)
 unfold X3;rw[←hn,EG,EG,EG,hn];exact Rnd.nam [] (show Rnd _ _ _ _ _ _ ⟨[(5,.s 40),(6,.s 41),(7,.s 42)],[(40,some ⟨3,some (1,n),Ad ((Au L).map Ag)⟩),(41,some ⟨101,some (3,n),Ad ((AD L).map AG)⟩),(42,some ⟨4,some (1,n),Ad ((BY L).map Bo)⟩)],55⟩ from rr [pk (AK 44 103 3 9 ((L).map (Al c)) ((L).length:Int)),pk (Aj 3 (n:Int) ((L).length:Int))]) (t:=⟨[(5,.s 40),(6,.s 41),(7,.s 42)],[(40,some ⟨3,some (1,n),Ad ((Au L).map Ag)⟩),(41,some ⟨101,some (3,n),Ad ((AD L).map AG)⟩),(42,some ⟨4,some (1,n),Ad ((BY L).map Bo)⟩)],50⟩) ⟨rfl,TVle.refl,rfl,TVle.refl,rfl,TVle.refl,trivial⟩ ⟨rfl,rfl,rfl,ILe.refl,rfl,rfl,rfl,ILe.refl,rfl,rfl,rfl,ILe.refl,trivial⟩
abbrev Q7 (L:List Nd):CT := .t (slI 1 ((Au L).map Ag))
abbrev Ry (L:List Nd):CT := .t (deI (AD L))
abbrev Abu (L:List Nd):CT := .t (slI 1 ((BY L).map Bo))
theorem X6 (L:List Nd)(f:Bool)(z:Int)(hl:L.length≤2002):Sp Tryz.prog I 75 [trT c L f z] (.tu [Q7 L,Ry L,Abu L]):=by
 obtain ⟨n,hn⟩ : ∃ n,L.length=n:=⟨_,rfl⟩;have lo:=Sy (I:=I) (c:=c) L f z n hn (by omega)
 exact sr 47 [pl (lo),pm (AH (I:=I) (t:=5) (k:=40) (E:=[(6,.s 41),(7,.s 42)]) (B:=[(41,some ⟨101,some (3,n),Ad ((AD L).map AG)⟩),(42,some ⟨4,some (1,n),Ad ((BY L).map Bo)⟩)]) (nx:=50) (T:=3) (sz:=1) (n:=n) ((Au L).map Ag) rfl (by rw[List.length_map,Db];exact hn.symm) L2 rfl),pm (AH (I:=I) (t:=6) (k:=41) (E:=[(5,.t (slI 1 ((Au L).map (Ag)))),(7,.s 42)]) (B:=[(42,some ⟨4,some (1,n),Ad ((BY L).map Bo)⟩)]) (nx:=50) (T:=101) (sz:=3) (n:=n) ((AD L).map AG) rfl (by rw[List.length_map,EL];exact hn.symm) RW rfl),pm (AH (I:=I) (t:=7) (k:=42) (E:=[(5,.t (slI 1 ((Au L).map (Ag)))),(6,.t (slI 3 ((AD L).map (AG))))]) (B:=[]) (nx:=50) (T:=4) (sz:=1) (n:=n) ((BY L).map Bo) rfl (by rw[List.length_map,Gu];exact hn.symm) Ty rfl)]
theorem Dj (L:List Nd):Bh L 0=[]:=by unfold Bh;rw[RI];rfl
theorem Cs {L:List Nd}{i j:Nat}(h:(tat L i).par=(j:Int))(hj:j < i):Bh L i=Bh L j++[dcn (tat L i)]:=by unfold Bh;rw[RJ h hj,List.reverse_cons]
theorem GS (L:List Nd)(i:Nat):(Bh L i).length≤i:=by unfold Bh;rw[List.length_reverse];exact U6 L i
theorem Mf (p d:CT):Sp Tryz.prog I 76 [p,d,ci 0] (.cv (.one (.z))):=sr 22 [pa]
abbrev Q5 (D:List De):Ent:=⟨101,some (3,D.length),Ad (D.map AG)⟩
theorem US (L:List Nd)(hl:L.length≤1000000) : ∀ i:Nat,0 < i→i < L.length→Dn L i→SpM Tryz.prog I 76 [] [Q7 L,Ry L,ci (i:Int)] [(2,some (Q5 (Bh L i)))] (.s 2):=by
 intro i;induction i using Nat.strongRecOn with
 | _ i ih =>
  intro h0 hi hD;obtain ⟨j,hj,hlt⟩:=hD.nat h0 (Nat.le_refl _);have hpa:=JA hi;rw[hj] at hpa;have hdl:=GS L j;rw[Cs hj hlt,←JW hi];by_cases hj0:j=0
  ·subst hj0
   rw[Dj];have hr:=Mf (I:=I) (Q7 L) (Ry L);rw[show (0:Int)=iat (Au L) i from hpa.symm] at hr;exact sm 22 [pk (GK 3 (i:Int) 0),pk (Ah 40 3 1 ((Au L).map (Ag)) i (i:Int) (Ag (iat (Au L) i)) (Ay (by rw[Db];exact hi))),po (hr),pk (Ah 110 101 3 ((AD L).map (AG)) i (i:Int) (AG (dat (AD L) i)) (Bd (by rw[EL];exact hi))),⟨.ap 0 1 24,⟨by omega,by simp only[maxLen];omega⟩⟩,pm ((show Leads I _ ⟨[(6,.s 18)],[(18,some ⟨101,some (3,1),[.i ((dat (AD L) i).1),.i ((dat (AD L) i).2.1),.o ((dat (AD L) i).2.2)]⟩)],20⟩ ⟨[(6,.s 2)],[(2,some ⟨101,some (3,1),[.i ((dat (AD L) i).1),.i ((dat (AD L) i).2.1),.o ((dat (AD L) i).2.2)]⟩)],20⟩ from AN [(2,18)] ⟨rfl,TVle.refl,trivial⟩ ⟨rfl,rfl,rfl,ILe.refl,trivial⟩))]
  ·have hr:=ih j hlt (by omega) (by omega) (fun x h1 h2=>hD x h1 (by omega))
   rw[←hpa] at hr;generalize Bh L j=D at *;unfold Q5;rw[List.length_append];exact sm 22 [pk (GK 3 (i:Int) 0),pk (Ah 40 3 1 ((Au L).map (Ag)) i (i:Int) (Ag (iat (Au L) i)) (Ay (by rw[Db];exact hi))),pom [] (hr),pk (Ah 110 101 3 ((AD L).map (AG)) i (i:Int) (AG (dat (AD L) i)) (Bd (by rw[EL];exact hi))),⟨.ap D.length 1 24,⟨by omega,by simp only[maxLen];omega⟩⟩,pm ((show Leads I _ ⟨[(6,.s 18)],[(18,some ⟨101,some (3,D.length+1),(Ad ((D).map AG))++([.i ((dat (AD L) i).1),.i ((dat (AD L) i).2.1),.o ((dat (AD L) i).2.2)])⟩)],20⟩ ⟨[(6,.s 2)],[(2,some ⟨101,some (3,D.length+1),Ad ((D++[(dat (AD L) i)]).map AG)⟩)],20⟩ from AN [(2,18)] ⟨rfl,TVle.refl,trivial⟩ ⟨rfl,rfl,rfl,ILe.eq (show (Ad ((D).map AG))++([.i ((dat (AD L) i).1),.i ((dat (AD L) i).2.1),.o ((dat (AD L) i).2.2)])=Ad ((D++[(dat (AD L) i)]).map AG) from (by rw[List.map_append,C2];rfl)),trivial⟩))]
theorem AbK {sz:Nat}:TVle (.cv (.one (.z))) (tit (slI sz [])):=fun N w g v hl=>by
 have hl:[v]=[.slice none 0 0]:=hl;injection hl with hl;subst hl;exact ⟨none,0,rfl,Nat.le_refl _,by simp[maxLen],fun h=>absurd rfl h⟩
theorem Mg (L:List Nd)(hl:L.length≤1000000)(i:Nat)(hi:i < L.length)(hD:Dn L i):Sp Tryz.prog I 76 [Q7 L,Ry L,ci (i:Int)] (tit (deI (Bh L i))):=by
 by_cases h0:i=0
 ·subst h0
  rw[Dj];exact (Mf (Q7 L) (Ry L)).rs AbK
 ·exact (US L hl i (by omega) hi hD).freeze (by rw[List.length_map]) RW rfl
end
theorem Yb {D:List De}{i:Nat}{b:Bool}(h:i < D.length)(hb:(dat D i).2.2=b):(D.map AG)[i]? = some [.lit (.int .i64 (dat D i).1),.lit (.int .i64 (dat D i).2.1),.lit (.bool b)]:=by rw[←hb];exact Bd h
theorem KO {D:List Bool}{i:Nat}{b:Bool}(h:i < D.length)(hb:bat D i=b):(D.map Bo)[i]? = some [.lit (.bool b)]:=by rw[←hb];exact AaB h
section
variable {I:WInv}{c c':Bool}
theorem VY (x:De):Sp Tryz.prog I 155 [.ag (dcl x)] (lb (decide (x=(0,0,false)))):=by
 by_cases h1:x.1=0
 ·by_cases h2:x.2.1=0
  ·obtain ⟨a,b,t⟩:=x
   cases t with
   | true =>
    rw[show decide ((a,b,true)=(0,0,false))=false by simp]
    exact sr 16 [pk (Ba 3 a 0 true (decide_eq_true h1)),pk (Ba 3 b 0 true (decide_eq_true h2)),pa]
   | false =>
    rw[show decide ((a,b,false)=(0,0,false))=true by simp at h1 h2 ⊢;exact ⟨h1,h2⟩]
    exact sr 16 [pk (Ba 3 a 0 true (decide_eq_true h1)),pk (Ba 3 b 0 true (decide_eq_true h2)),pa]
  ·rw[show decide (x=(0,0,false))=false from decide_eq_false fun h=>h2 (by rw[h])]
   exact sr 16 [pk (Ba 3 x.1 0 true (decide_eq_true h1)),pk (Ba 3 x.2.1 0 false (decide_eq_false h2))]
 ·rw[show decide (x=(0,0,false))=false from decide_eq_false fun h=>h1 (by rw[h])]
  exact sr 16 [pk (Ba 3 x.1 0 false (decide_eq_false h1))]
def Ms (L:List Nd)(n:Nat)(C:List Int)(i:Int):Go.Proofs.YtdgbealknnmkoaaGreatDoor.St:=⟨[(0,.t (slI 1 ((Au L).map (Ag)))),(1,.t (slI 3 ((AD L).map (AG)))),(2,.t (slI 1 ((BY L).map (Bo)))),(7,.i (n:Int)),(8,.s 25),(9,.i i)],[(25,some ⟨3,some (1,n),Ad ((C).map Ag)⟩)],50⟩
def Q1 (nx:Nat):Go.Proofs.YtdgbealknnmkoaaGreatDoor.St:=⟨[(6,lb false)],[],nx⟩
theorem G3 (L : List Nd) (n : Nat) (hn : L.length = n) (m : Nat) (hm : 2 * m + 2 < n) (hl : n ≤ 2002) :
  (prB L m=true→Rnd Tryz.prog I 192 (Bj Tryz.prog 114 0) (Ms L n (clt L m) (2*(m:Int)+1)) .normal (Ms L n (clt L (m+1)) (2*((m+1:Nat):Int)+1))) ∧
  (prB L m=false→Rnd Tryz.prog I 192 (Bj Tryz.prog 114 0) (Ms L n (clt L m) (2*(m:Int)+1)) .ret (Q1 50)):=by
 have e1:2*m+1 < (Au L).length:=by rw[Db];omega
 have e2:2*m+2 < (Au L).length:=by rw[Db];omega
 have f1:2*m+1 < (AD L).length:=by rw[EL];omega
 have f2:2*m+2 < (AD L).length:=by rw[EL];omega
 have hlp:=Db L;have g1:=JA (L:=L) (i:=2*m+1) (by omega)
 have g2:=JA (L:=L) (i:=2*m+2) (by omega)
 have d1:=JW (L:=L) (i:=2*m+1) (by omega)
 have d2:=JW (L:=L) (i:=2*m+2) (by omega)
 have a1:(dat (AD L) (2*m+1)).1=(tat L (2*m+1)).fst:=by rw[d1];rfl
 have a2:(dat (AD L) (2*m+1)).2.1=(tat L (2*m+1)).nxt:=by rw[d1];rfl
 have b1:(dat (AD L) (2*m+2)).1=(tat L (2*m+2)).fst:=by rw[d2];rfl
 have b2:(dat (AD L) (2*m+2)).2.1=(tat L (2*m+2)).nxt:=by rw[d2];rfl
 have a3:(dat (AD L) (2*m+1)).2.2=(tat L (2*m+1)).tog:=by rw[d1];rfl
 have b3:(dat (AD L) (2*m+2)).2.2=(tat L (2*m+2)).tog:=by rw[d2];rfl
 by_cases p1:(tat L (2*m+1)).par=(tat L (2*m+2)).par
 ·by_cases p2 : (tat L (2 * m + 1)).par < 0
  ·refine ⟨fun h=>absurd h (by unfold prB;simp;omega),fun _ => ?_⟩
   exact rr [pk (As 3 (2*(m:Int)+1) (n:Int)),pk (Ah 110 101 3 ((AD L).map (AG)) (2*m+1) (2*(m:Int)+1) (AG (dat (AD L) (2*m+1))) (Bd f1)),pk (Az 3 (2*(m:Int)+1) 1 ⟨by omega,by omega⟩),pk (Ah 110 101 3 ((AD L).map (AG)) (2*m+2) ((2*(m:Int)+1)+1) (AG (dat (AD L) (2*m+2))) (Bd f2)),pk (Ah 40 3 1 ((Au L).map (Ag)) (2*m+1) (2*(m:Int)+1) (Ag (iat (Au L) (2*m+1))) (Ay e1)),pk (Az 3 (2*(m:Int)+1) 1 ⟨by omega,by omega⟩),pk (Ah 40 3 1 ((Au L).map (Ag)) (2*m+2) ((2*(m:Int)+1)+1) (Ag (iat (Au L) (2*m+2))) (Ay e2)),pk (At 3 (iat (Au L) (2*m+1)) (iat (Au L) (2*m+2))),pk (Ah 40 3 1 ((Au L).map (Ag)) (2*m+1) (2*(m:Int)+1) (Ag (iat (Au L) (2*m+1))) (Ay e1)),pk (As 3 (iat (Au L) (2*m+1)) 0)]
  ·by_cases p3 : 2 * (m : Int) + 1 ≤ (tat L (2 * m + 1)).par
   ·refine ⟨fun h=>absurd h (by unfold prB;simp;omega),fun _ => ?_⟩
    exact rr [pk (As 3 (2*(m:Int)+1) (n:Int)),pk (Ah 110 101 3 ((AD L).map (AG)) (2*m+1) (2*(m:Int)+1) (AG (dat (AD L) (2*m+1))) (Bd f1)),pk (Az 3 (2*(m:Int)+1) 1 ⟨by omega,by omega⟩),pk (Ah 110 101 3 ((AD L).map (AG)) (2*m+2) ((2*(m:Int)+1)+1) (AG (dat (AD L) (2*m+2))) (Bd f2)),pk (Ah 40 3 1 ((Au L).map (Ag)) (2*m+1) (2*(m:Int)+1) (Ag (iat (Au L) (2*m+1))) (Ay e1)),pk (Az 3 (2*(m:Int)+1) 1 ⟨by omega,by omega⟩),pk (Ah 40 3 1 ((Au L).map (Ag)) (2*m+2) ((2*(m:Int)+1)+1) (Ag (iat (Au L) (2*m+2))) (Ay e2)),pk (At 3 (iat (Au L) (2*m+1)) (iat (Au L) (2*m+2))),pk (Ah 40 3 1 ((Au L).map (Ag)) (2*m+1) (2*(m:Int)+1) (Ag (iat (Au L) (2*m+1))) (Ay e1)),pk (Aj 3 (iat (Au L) (2*m+1)) 0),pk (Ah 40 3 1 ((Au L).map (Ag)) (2*m+1) (2*(m:Int)+1) (Ag (iat (Au L) (2*m+1))) (Ay e1)),pk (B0 3 (iat (Au L) (2*m+1)) (2*(m:Int)+1))]
   ·have hpp : (tat L (2 * m + 1)).par = ((pp L m : Nat) : Int) := by unfold pp; omega
    have cp:pp L m < (clt L m).length:=by rw[Gf];omega
    have bc:=SS L m (pp L m);by_cases p4:(tat L (2*m+1)).fst=(tat L (2*m+2)).fst
    ·by_cases p5 : (tat L (2 * m + 1)).nxt = (tat L (2 * m + 2)).nxt
     ·by_cases p6 : (tat L (2 * m + 1)).fst < 0
      ·refine ⟨fun h=>absurd h (by unfold prB;simp;omega),fun _ => ?_⟩
       exact rr [pk (As 3 (2*(m:Int)+1) (n:Int)),pk (Ah 110 101 3 ((AD L).map (AG)) (2*m+1) (2*(m:Int)+1) (AG (dat (AD L) (2*m+1))) (Bd f1)),pk (Az 3 (2*(m:Int)+1) 1 ⟨by omega,by omega⟩),pk (Ah 110 101 3 ((AD L).map (AG)) (2*m+2) ((2*(m:Int)+1)+1) (AG (dat (AD L) (2*m+2))) (Bd f2)),pk (Ah 40 3 1 ((Au L).map (Ag)) (2*m+1) (2*(m:Int)+1) (Ag (iat (Au L) (2*m+1))) (Ay e1)),pk (Az 3 (2*(m:Int)+1) 1 ⟨by omega,by omega⟩),pk (Ah 40 3 1 ((Au L).map (Ag)) (2*m+2) ((2*(m:Int)+1)+1) (Ag (iat (Au L) (2*m+2))) (Ay e2)),pk (At 3 (iat (Au L) (2*m+1)) (iat (Au L) (2*m+2))),pk (Ah 40 3 1 ((Au L).map (Ag)) (2*m+1) (2*(m:Int)+1) (Ag (iat (Au L) (2*m+1))) (Ay e1)),pk (Aj 3 (iat (Au L) (2*m+1)) 0),pk (Ah 40 3 1 ((Au L).map (Ag)) (2*m+1) (2*(m:Int)+1) (Ag (iat (Au L) (2*m+1))) (Ay e1)),pk (Cu 3 (iat (Au L) (2*m+1)) (2*(m:Int)+1)),pk (At 3 ((dat (AD L) (2*m+1)).1) ((dat (AD L) (2*m+2)).1)),pk (At 3 ((dat (AD L) (2*m+1)).2.1) ((dat (AD L) (2*m+2)).2.1)),pk (As 3 ((dat (AD L) (2*m+1)).1) 0)]
      ·by_cases p7 : (tat L (2 * m + 1)).nxt < 0
       ·refine ⟨fun h=>absurd h (by unfold prB;simp;omega),fun _ => ?_⟩
        exact rr [pk (As 3 (2*(m:Int)+1) (n:Int)),pk (Ah 110 101 3 ((AD L).map (AG)) (2*m+1) (2*(m:Int)+1) (AG (dat (AD L) (2*m+1))) (Bd f1)),pk (Az 3 (2*(m:Int)+1) 1 ⟨by omega,by omega⟩),pk (Ah 110 101 3 ((AD L).map (AG)) (2*m+2) ((2*(m:Int)+1)+1) (AG (dat (AD L) (2*m+2))) (Bd f2)),pk (Ah 40 3 1 ((Au L).map (Ag)) (2*m+1) (2*(m:Int)+1) (Ag (iat (Au L) (2*m+1))) (Ay e1)),pk (Az 3 (2*(m:Int)+1) 1 ⟨by omega,by omega⟩),pk (Ah 40 3 1 ((Au L).map (Ag)) (2*m+2) ((2*(m:Int)+1)+1) (Ag (iat (Au L) (2*m+2))) (Ay e2)),pk (At 3 (iat (Au L) (2*m+1)) (iat (Au L) (2*m+2))),pk (Ah 40 3 1 ((Au L).map (Ag)) (2*m+1) (2*(m:Int)+1) (Ag (iat (Au L) (2*m+1))) (Ay e1)),pk (Aj 3 (iat (Au L) (2*m+1)) 0),pk (Ah 40 3 1 ((Au L).map (Ag)) (2*m+1) (2*(m:Int)+1) (Ag (iat (Au L) (2*m+1))) (Ay e1)),pk (Cu 3 (iat (Au L) (2*m+1)) (2*(m:Int)+1)),pk (At 3 ((dat (AD L) (2*m+1)).1) ((dat (AD L) (2*m+2)).1)),pk (At 3 ((dat (AD L) (2*m+1)).2.1) ((dat (AD L) (2*m+2)).2.1)),pk (Aj 3 ((dat (AD L) (2*m+1)).1) 0),pk (As 3 ((dat (AD L) (2*m+1)).2.1) 0)]
       ·by_cases p8 : (tat L (2 * m + 1)).fst = (tat L (2 * m + 1)).nxt
        ·refine ⟨fun h=>absurd h (by unfold prB;simp;omega),fun _ => ?_⟩
         exact rr [pk (As 3 (2*(m:Int)+1) (n:Int)),pk (Ah 110 101 3 ((AD L).map (AG)) (2*m+1) (2*(m:Int)+1) (AG (dat (AD L) (2*m+1))) (Bd f1)),pk (Az 3 (2*(m:Int)+1) 1 ⟨by omega,by omega⟩),pk (Ah 110 101 3 ((AD L).map (AG)) (2*m+2) ((2*(m:Int)+1)+1) (AG (dat (AD L) (2*m+2))) (Bd f2)),pk (Ah 40 3 1 ((Au L).map (Ag)) (2*m+1) (2*(m:Int)+1) (Ag (iat (Au L) (2*m+1))) (Ay e1)),pk (Az 3 (2*(m:Int)+1) 1 ⟨by omega,by omega⟩),pk (Ah 40 3 1 ((Au L).map (Ag)) (2*m+2) ((2*(m:Int)+1)+1) (Ag (iat (Au L) (2*m+2))) (Ay e2)),pk (At 3 (iat (Au L) (2*m+1)) (iat (Au L) (2*m+2))),pk (Ah 40 3 1 ((Au L).map (Ag)) (2*m+1) (2*(m:Int)+1) (Ag (iat (Au L) (2*m+1))) (Ay e1)),pk (Aj 3 (iat (Au L) (2*m+1)) 0),pk (Ah 40 3 1 ((Au L).map (Ag)) (2*m+1) (2*(m:Int)+1) (Ag (iat (Au L) (2*m+1))) (Ay e1)),pk (Cu 3 (iat (Au L) (2*m+1)) (2*(m:Int)+1)),pk (At 3 ((dat (AD L) (2*m+1)).1) ((dat (AD L) (2*m+2)).1)),pk (At 3 ((dat (AD L) (2*m+1)).2.1) ((dat (AD L) (2*m+2)).2.1)),pk (Aj 3 ((dat (AD L) (2*m+1)).1) 0),pk (Aj 3 ((dat (AD L) (2*m+1)).2.1) 0),pk (Ak 3 ((dat (AD L) (2*m+1)).1) ((dat (AD L) (2*m+1)).2.1))]
        ·cases p9:(tat L (2*m+1)).tog with
         | false =>
          have ta:=a3.trans p9;refine ⟨fun h=>absurd h (by unfold prB dcn;simp[p9]),fun _ => ?_⟩
          exact rr [pk (As 3 (2*(m:Int)+1) (n:Int)),pk (Ah 110 101 3 ((AD L).map (AG)) (2*m+1) (2*(m:Int)+1) ([.lit (.int .i64 ((dat (AD L) (2*m+1)).1)),.lit (.int .i64 ((dat (AD L) (2*m+1)).2.1)),.lit (.bool false)]) (Yb f1 ta)),pk (Az 3 (2*(m:Int)+1) 1 ⟨by omega,by omega⟩),pk (Ah 110 101 3 ((AD L).map (AG)) (2*m+2) ((2*(m:Int)+1)+1) (AG (dat (AD L) (2*m+2))) (Bd f2)),pk (Ah 40 3 1 ((Au L).map (Ag)) (2*m+1) (2*(m:Int)+1) (Ag (iat (Au L) (2*m+1))) (Ay e1)),pk (Az 3 (2*(m:Int)+1) 1 ⟨by omega,by omega⟩),pk (Ah 40 3 1 ((Au L).map (Ag)) (2*m+2) ((2*(m:Int)+1)+1) (Ag (iat (Au L) (2*m+2))) (Ay e2)),pk (At 3 (iat (Au L) (2*m+1)) (iat (Au L) (2*m+2))),pk (Ah 40 3 1 ((Au L).map (Ag)) (2*m+1) (2*(m:Int)+1) (Ag (iat (Au L) (2*m+1))) (Ay e1)),pk (Aj 3 (iat (Au L) (2*m+1)) 0),pk (Ah 40 3 1 ((Au L).map (Ag)) (2*m+1) (2*(m:Int)+1) (Ag (iat (Au L) (2*m+1))) (Ay e1)),pk (Cu 3 (iat (Au L) (2*m+1)) (2*(m:Int)+1)),pk (At 3 ((dat (AD L) (2*m+1)).1) ((dat (AD L) (2*m+2)).1)),pk (At 3 ((dat (AD L) (2*m+1)).2.1) ((dat (AD L) (2*m+2)).2.1)),pk (Aj 3 ((dat (AD L) (2*m+1)).1) 0),pk (Aj 3 ((dat (AD L) (2*m+1)).2.1) 0),pk (Af 3 ((dat (AD L) (2*m+1)).1) ((dat (AD L) (2*m+1)).2.1)),pa]
         | true =>
          have ta:=a3.trans p9;cases p10:(tat L (2*m+2)).tog with
          | true =>
           have tb:=b3.trans p10;refine ⟨fun h=>absurd h (by unfold prB dcn;simp[p10]),fun _ => ?_⟩
           exact rr [pk (As 3 (2*(m:Int)+1) (n:Int)),pk (Ah 110 101 3 ((AD L).map (AG)) (2*m+1) (2*(m:Int)+1) ([.lit (.int .i64 ((dat (AD L) (2*m+1)).1)),.lit (.int .i64 ((dat (AD L) (2*m+1)).2.1)),.lit (.bool true)]) (Yb f1 ta)),pk (Az 3 (2*(m:Int)+1) 1 ⟨by omega,by omega⟩),pk (Ah 110 101 3 ((AD L).map (AG)) (2*m+2) ((2*(m:Int)+1)+1) ([.lit (.int .i64 ((dat (AD L) (2*m+2)).1)),.lit (.int .i64 ((dat (AD L) (2*m+2)).2.1)),.lit (.bool true)]) (Yb f2 tb)),pk (Ah 40 3 1 ((Au L).map (Ag)) (2*m+1) (2*(m:Int)+1) (Ag (iat (Au L) (2*m+1))) (Ay e1)),pk (Az 3 (2*(m:Int)+1) 1 ⟨by omega,by omega⟩),pk (Ah 40 3 1 ((Au L).map (Ag)) (2*m+2) ((2*(m:Int)+1)+1) (Ag (iat (Au L) (2*m+2))) (Ay e2)),pk (At 3 (iat (Au L) (2*m+1)) (iat (Au L) (2*m+2))),pk (Ah 40 3 1 ((Au L).map (Ag)) (2*m+1) (2*(m:Int)+1) (Ag (iat (Au L) (2*m+1))) (Ay e1)),pk (Aj 3 (iat (Au L) (2*m+1)) 0),pk (Ah 40 3 1 ((Au L).map (Ag)) (2*m+1) (2*(m:Int)+1) (Ag (iat (Au L) (2*m+1))) (Ay e1)),pk (Cu 3 (iat (Au L) (2*m+1)) (2*(m:Int)+1)),pk (At 3 ((dat (AD L) (2*m+1)).1) ((dat (AD L) (2*m+2)).1)),pk (At 3 ((dat (AD L) (2*m+1)).2.1) ((dat (AD L) (2*m+2)).2.1)),pk (Aj 3 ((dat (AD L) (2*m+1)).1) 0),pk (Aj 3 ((dat (AD L) (2*m+1)).2.1) 0),pk (Af 3 ((dat (AD L) (2*m+1)).1) ((dat (AD L) (2*m+1)).2.1)),pa]
          | false =>
           have tb:=b3.trans p10;refine ⟨fun _ => ?_,fun h=>absurd h (by unfold prB dcn;simp[p9,p10,←p1,←p4,←p5];omega)⟩
           have r:Rnd Tryz.prog I 192 (Bj Tryz.prog 114 0) (Ms L n (clt L m) (2*(m:Int)+1)) .normal (Ms L n (clt L (m+1)) (2*(m:Int)+1+2)):=by
            have e:clt L (m+1)=(clt L m).set (pp L m) (iat (clt L m) (pp L m)+2):=rfl;rw[e];exact Rnd.nam [] (show Rnd _ _ _ _ _ _ ⟨[(0,.t (slI 1 ((Au L).map (Ag)))),(1,.t (slI 3 ((AD L).map (AG)))),(2,.t (slI 1 ((BY L).map (Bo)))),(7,.i (n:Int)),(8,.s 25),(9,.i ((2*(m:Int)+1)+2))],[(25,some ⟨3,some (1,n),Ad (((clt L m).set (pp L m) ((iat (clt L m) (pp L m))+2)).map Ag)⟩)],144⟩ from rr [pk (As 3 (2*(m:Int)+1) (n:Int)),pk (Ah 110 101 3 ((AD L).map (AG)) (2*m+1) (2*(m:Int)+1) ([.lit (.int .i64 ((dat (AD L) (2*m+1)).1)),.lit (.int .i64 ((dat (AD L) (2*m+1)).2.1)),.lit (.bool true)]) (Yb f1 ta)),pk (Az 3 (2*(m:Int)+1) 1 ⟨by omega,by omega⟩),pk (Ah 110 101 3 ((AD L).map (AG)) (2*m+2) ((2*(m:Int)+1)+1) ([.lit (.int .i64 ((dat (AD L) (2*m+2)).1)),.lit (.int .i64 ((dat (AD L) (2*m+2)).2.1)),.lit (.bool false)]) (Yb f2 tb)),pk (Ah 40 3 1 ((Au L).map (Ag)) (2*m+1) (2*(m:Int)+1) (Ag (iat (Au L) (2*m+1))) (Ay e1)),pk (Az 3 (2*(m:Int)+1) 1 ⟨by omega,by omega⟩),pk (Ah 40 3 1 ((Au L).map (Ag)) (2*m+2) ((2*(m:Int)+1)+1) (Ag (iat (Au L) (2*m+2))) (Ay e2)),pk (At 3 (iat (Au L) (2*m+1)) (iat (Au L) (2*m+2))),pk (Ah 40 3 1 ((Au L).map (Ag)) (2*m+1) (2*(m:Int)+1) (Ag (iat (Au L) (2*m+1))) (Ay e1)),pk (Aj 3 (iat (Au L) (2*m+1)) 0),pk (Ah 40 3 1 ((Au L).map (Ag)) (2*m+1) (2*(m:Int)+1) (Ag (iat (Au L) (2*m+1))) (Ay e1)),pk (Cu 3 (iat (Au L) (2*m+1)) (2*(m:Int)+1)),pk (At 3 ((dat (AD L) (2*m+1)).1) ((dat (AD L) (2*m+2)).1)),pk (At 3 ((dat (AD L) (2*m+1)).2.1) ((dat (AD L) (2*m+2)).2.1)),pk (Aj 3 ((dat (AD L) (2*m+1)).1) 0),pk (Aj 3 ((dat (AD L) (2*m+1)).2.1) 0),pk (Af 3 ((dat (AD L) (2*m+1)).1) ((dat (AD L) (2*m+1)).2.1)),pa,pk (Ah 40 3 1 ((Au L).map (Ag)) (2*m+1) (2*(m:Int)+1) (Ag (iat (Au L) (2*m+1))) (Ay e1)),⟨.ix (iat (Au L) (2*m+1)) (pp L m) n,⟨by omega,by omega⟩⟩,⟨.part (Ad ((clt L m).map Ag)) ((pp L m)*1) 1 [.i (iat (clt L m) (pp L m))],(Zr (D:=clt L m) cp)⟩,pk (Az 3 (iat (clt L m) (pp L m)) 2 ⟨by omega,by omega⟩),⟨.ix (iat (Au L) (2*m+1)) (pp L m) n,⟨by omega,by omega⟩⟩,⟨.upd (Ad ((clt L m).map Ag)) ((pp L m)*1) [.i ((iat (clt L m) (pp L m))+2)] (Ad (((clt L m).set (pp L m) ((iat (clt L m) (pp L m))+2)).map Ag)),(Zf (D:=clt L m) cp ((iat (clt L m) (pp L m))+2))⟩,pk (Az 3 (2*(m:Int)+1) 2 ⟨by omega,by omega⟩)]) (t:=⟨[(0,.t (slI 1 ((Au L).map (Ag)))),(1,.t (slI 3 ((AD L).map (AG)))),(2,.t (slI 1 ((BY L).map (Bo)))),(7,.i (n:Int)),(8,.s 25),(9,.i ((2*(m:Int)+1)+2))],[(25,some ⟨3,some (1,n),Ad (((clt L m).set (pp L m) ((iat (clt L m) (pp L m))+2)).map Ag)⟩)],50⟩) ⟨rfl,TVle.refl,rfl,TVle.refl,rfl,TVle.refl,rfl,TVle.refl,rfl,TVle.refl,rfl,TVle.refl,trivial⟩ ⟨rfl,rfl,rfl,ILe.refl,trivial⟩
           rw[show 2*(m:Int)+1+2=2*((m+1:Nat):Int)+1 by omega] at r
           exact r
     ·refine ⟨fun h=>absurd h (by unfold prB dcn;simp;omega),fun _ => ?_⟩
      exact rr [pk (As 3 (2*(m:Int)+1) (n:Int)),pk (Ah 110 101 3 ((AD L).map (AG)) (2*m+1) (2*(m:Int)+1) (AG (dat (AD L) (2*m+1))) (Bd f1)),pk (Az 3 (2*(m:Int)+1) 1 ⟨by omega,by omega⟩),pk (Ah 110 101 3 ((AD L).map (AG)) (2*m+2) ((2*(m:Int)+1)+1) (AG (dat (AD L) (2*m+2))) (Bd f2)),pk (Ah 40 3 1 ((Au L).map (Ag)) (2*m+1) (2*(m:Int)+1) (Ag (iat (Au L) (2*m+1))) (Ay e1)),pk (Az 3 (2*(m:Int)+1) 1 ⟨by omega,by omega⟩),pk (Ah 40 3 1 ((Au L).map (Ag)) (2*m+2) ((2*(m:Int)+1)+1) (Ag (iat (Au L) (2*m+2))) (Ay e2)),pk (At 3 (iat (Au L) (2*m+1)) (iat (Au L) (2*m+2))),pk (Ah 40 3 1 ((Au L).map (Ag)) (2*m+1) (2*(m:Int)+1) (Ag (iat (Au L) (2*m+1))) (Ay e1)),pk (Aj 3 (iat (Au L) (2*m+1)) 0),pk (Ah 40 3 1 ((Au L).map (Ag)) (2*m+1) (2*(m:Int)+1) (Ag (iat (Au L) (2*m+1))) (Ay e1)),pk (Cu 3 (iat (Au L) (2*m+1)) (2*(m:Int)+1)),pk (At 3 ((dat (AD L) (2*m+1)).1) ((dat (AD L) (2*m+2)).1)),pk (AR 3 ((dat (AD L) (2*m+1)).2.1) ((dat (AD L) (2*m+2)).2.1))]
    ·refine ⟨fun h=>absurd h (by unfold prB dcn;simp;omega),fun _ => ?_⟩
     exact rr [pk (As 3 (2*(m:Int)+1) (n:Int)),pk (Ah 110 101 3 ((AD L).map (AG)) (2*m+1) (2*(m:Int)+1) (AG (dat (AD L) (2*m+1))) (Bd f1)),pk (Az 3 (2*(m:Int)+1) 1 ⟨by omega,by omega⟩),pk (Ah 110 101 3 ((AD L).map (AG)) (2*m+2) ((2*(m:Int)+1)+1) (AG (dat (AD L) (2*m+2))) (Bd f2)),pk (Ah 40 3 1 ((Au L).map (Ag)) (2*m+1) (2*(m:Int)+1) (Ag (iat (Au L) (2*m+1))) (Ay e1)),pk (Az 3 (2*(m:Int)+1) 1 ⟨by omega,by omega⟩),pk (Ah 40 3 1 ((Au L).map (Ag)) (2*m+2) ((2*(m:Int)+1)+1) (Ag (iat (Au L) (2*m+2))) (Ay e2)),pk (At 3 (iat (Au L) (2*m+1)) (iat (Au L) (2*m+2))),pk (Ah 40 3 1 ((Au L).map (Ag)) (2*m+1) (2*(m:Int)+1) (Ag (iat (Au L) (2*m+1))) (Ay e1)),pk (Aj 3 (iat (Au L) (2*m+1)) 0),pk (Ah 40 3 1 ((Au L).map (Ag)) (2*m+1) (2*(m:Int)+1) (Ag (iat (Au L) (2*m+1))) (Ay e1)),pk (Cu 3 (iat (Au L) (2*m+1)) (2*(m:Int)+1)),pk (AR 3 ((dat (AD L) (2*m+1)).1) ((dat (AD L) (2*m+2)).1))]
 ·refine ⟨fun h=>absurd h (by unfold prB;simp[p1]),fun _ => ?_⟩
  exact rr [pk (As 3 (2*(m:Int)+1) (n:Int)),pk (Ah 110 101 3 ((AD L).map (AG)) (2*m+1) (2*(m:Int)+1) (AG (dat (AD L) (2*m+1))) (Bd f1)),pk (Az 3 (2*(m:Int)+1) 1 ⟨by omega,by omega⟩),pk (Ah 110 101 3 ((AD L).map (AG)) (2*m+2) ((2*(m:Int)+1)+1) (AG (dat (AD L) (2*m+2))) (Bd f2)),pk (Ah 40 3 1 ((Au L).map (Ag)) (2*m+1) (2*(m:Int)+1) (Ag (iat (Au L) (2*m+1))) (Ay e1)),pk (Az 3 (2*(m:Int)+1) 1 ⟨by omega,by omega⟩),pk (Ah 40 3 1 ((Au L).map (Ag)) (2*m+2) ((2*(m:Int)+1)+1) (Ag (iat (Au L) (2*m+2))) (Ay e2)),pk (AR 3 (iat (Au L) (2*m+1)) (iat (Au L) (2*m+2)))]
end
def PW (D:List De)(k j:Nat):Bool:=decide ((dat D k).1=(dat D j).1)&&decide ((dat D k).2.1=(dat D j).2.1)
def inC (D:List De)(k j:Nat):Int:=if PW D k j then 1 else 0
def miC (D:List De)(k:Nat):Int:=AT (inC D k) k 0
def cpC (L:List Nd)(i:Nat):Int:=if 2 < iat (clt L (L.length / 2)) i then 1 else if decide ((tat L i).st=1)=decide (iat (clt L (L.length / 2)) i=2) then 0 else 1
def ouC (L:List Nd)(i:Nat):Int:=if cpC L i≠0 then cpC L i else if 32 < (Bh L i).length then 1 else AT (miC (Bh L i)) (Bh L i).length 0
section
variable {I:WInv}{c c':Bool}
def AbX (L:List Nd)(n:Nat)(i:Nat)(D:List De)(k:Nat)(j:Int):Go.Proofs.YtdgbealknnmkoaaGreatDoor.St:=⟨[(0,.t (slI 1 ((Au L).map (Ag)))),(1,.t (slI 3 ((AD L).map (AG)))),(2,.t (slI 1 ((BY L).map (Bo)))),(7,.i (n:Int)),(8,.t (slI 1 ((clt L (L.length / 2)).map (Ag)))),(12,.i (i:Int)),(13,.t (slI 3 ((D).map (AG)))),(14,.i (k:Int)),(15,.i j)],[],130⟩
def AcY (L:List Nd)(n:Nat)(i:Nat)(D:List De)(k:Nat):Go.Proofs.YtdgbealknnmkoaaGreatDoor.St:=⟨[(0,.t (slI 1 ((Au L).map (Ag)))),(1,.t (slI 3 ((AD L).map (AG)))),(2,.t (slI 1 ((BY L).map (Bo)))),(7,.i (n:Int)),(8,.t (slI 1 ((clt L (L.length / 2)).map (Ag)))),(12,.i (i:Int)),(13,.t (slI 3 ((D).map (AG)))),(14,.i (k:Int))],[],130⟩
theorem ZW {D:List De}{k j:Nat}(h:inC D k j≠0):PW D k j=true:=by
 unfold inC at h;cases hs:PW D k j with
 | true=>rfl
 | false=>rw[hs] at h;exact absurd rfl h
theorem XJ {D:List De}{k j:Nat}(h:inC D k j=0):PW D k j=false:=by
 unfold inC at h;cases hs:PW D k j with
 | false=>rfl
 | true=>rw[hs] at h;exact absurd h (by decide)
theorem TO (L:List Nd)(n:Nat)(i:Nat)(D:List De)(k:Nat)(hk:k < D.length)(hl:D.length≤100000) :
  (miC D k=0→LoopTr Tryz.prog I 192 (Bj Tryz.prog 114 3) (AbX L n i D k ((0:Nat):Int)) (.exit 6) (AcY L n i D k))∧(miC D k≠0→LoopTr Tryz.prog I 192 (Bj Tryz.prog 114 3) (AbX L n i D k ((0:Nat):Int)) .ret (Q1 130)):=by
 refine CS (inC D k) k (fun j=>AbX L n i D k (j:Int)) (fun _=>Q1 130) (fun j hj hc => ?_) ?_ (fun j hj hc => ?_)
 ·have hs:=XJ hc
  unfold PW at hs;have hj':j < D.length:=by omega
  by_cases h1:(dat D k).1=(dat D j).1
  ·by_cases h2:(dat D k).2.1=(dat D j).2.1
   ·rw[decide_eq_true h1,decide_eq_true h2] at hs;cases hs
   ·have hj:=hj'
    exact rr [pk (As 3 (j:Int) (k:Int)),pk (Ah 110 101 3 ((D).map (AG)) k (k:Int) (AG (dat D k)) (Bd hk)),pk (Ah 110 101 3 ((D).map (AG)) j (j:Int) (AG (dat D j)) (Bd hj)),pk (Ba 3 ((dat D k).1) ((dat D j).1) true (decide_eq_true h1)),pk (Ah 110 101 3 ((D).map (AG)) k (k:Int) (AG (dat D k)) (Bd hk)),pk (Ah 110 101 3 ((D).map (AG)) j (j:Int) (AG (dat D j)) (Bd hj)),pk (Ba 3 ((dat D k).2.1) ((dat D j).2.1) false (decide_eq_false h2)),pk (Az 3 (j:Int) 1 ⟨by omega,by omega⟩)]
  ·have hj:=hj'
   exact rr [pk (As 3 (j:Int) (k:Int)),pk (Ah 110 101 3 ((D).map (AG)) k (k:Int) (AG (dat D k)) (Bd hk)),pk (Ah 110 101 3 ((D).map (AG)) j (j:Int) (AG (dat D j)) (Bd hj)),pk (Ba 3 ((dat D k).1) ((dat D j).1) false (decide_eq_false h1)),pk (Az 3 (j:Int) 1 ⟨by omega,by omega⟩)]
 ·exact rr [pk (Aj 3 (k:Int) (k:Int))]
 ·have hs:=ZW hc
  unfold PW at hs;rw[Bool.and_eq_true,decide_eq_true_eq,decide_eq_true_eq] at hs;obtain ⟨h1,h2⟩:=hs;have hj':j < D.length:=by omega
  have hj:=hj';exact rr [pk (As 3 (j:Int) (k:Int)),pk (Ah 110 101 3 ((D).map (AG)) k (k:Int) (AG (dat D k)) (Bd hk)),pk (Ah 110 101 3 ((D).map (AG)) j (j:Int) (AG (dat D j)) (Bd hj)),pk (Ba 3 ((dat D k).1) ((dat D j).1) true (decide_eq_true h1)),pk (Ah 110 101 3 ((D).map (AG)) k (k:Int) (AG (dat D k)) (Bd hk)),pk (Ah 110 101 3 ((D).map (AG)) j (j:Int) (AG (dat D j)) (Bd hj)),pk (Ba 3 ((dat D k).2.1) ((dat D j).2.1) true (decide_eq_true h2))]
def AbS (L:List Nd)(n:Nat)(i:Nat)(D:List De)(k:Int):Go.Proofs.YtdgbealknnmkoaaGreatDoor.St:=⟨[(0,.t (slI 1 ((Au L).map (Ag)))),(1,.t (slI 3 ((AD L).map (AG)))),(2,.t (slI 1 ((BY L).map (Bo)))),(7,.i (n:Int)),(8,.t (slI 1 ((clt L (L.length / 2)).map (Ag)))),(12,.i (i:Int)),(13,.t (slI 3 ((D).map (AG)))),(14,.i k)],[],90⟩
def AcT (L:List Nd)(n:Nat)(i:Nat)(D:List De):Go.Proofs.YtdgbealknnmkoaaGreatDoor.St:=⟨[(0,.t (slI 1 ((Au L).map (Ag)))),(1,.t (slI 3 ((AD L).map (AG)))),(2,.t (slI 1 ((BY L).map (Bo)))),(7,.i (n:Int)),(8,.t (slI 1 ((clt L (L.length / 2)).map (Ag)))),(12,.i (i:Int)),(13,.t (slI 3 ((D).map (AG))))],[],90⟩
theorem TK (L:List Nd)(n:Nat)(i:Nat)(D:List De)(hl:D.length≤100000) :
  (AT (miC D) D.length 0=0→LoopTr Tryz.prog I 192 (Bj Tryz.prog 114 2) (AbS L n i D ((0:Nat):Int)) (.exit 4) (AcT L n i D))∧(AT (miC D) D.length 0≠0→LoopTr Tryz.prog I 192 (Bj Tryz.prog 114 2) (AbS L n i D ((0:Nat):Int)) .ret (Q1 130)):=by
 refine CS (miC D) D.length (fun k=>AbS L n i D (k:Int)) (fun _=>Q1 130) (fun k hk hc => ?_) ?_ (fun k hk hc => ?_)
 ·have lo:=(TO (I:=I) L n i D k hk hl).1 hc
  exact rr [pk (AK 110 101 3 3 ((D).map (AG)) ((D).length:Int)),pk (As 3 (k:Int) ((D).length:Int)),pl (lo),pk (Az 3 (k:Int) 1 ⟨by omega,by omega⟩)]
 ·exact rr [pk (AK 110 101 3 3 ((D).map (AG)) ((D).length:Int)),pk (Aj 3 (D.length:Int) ((D).length:Int))]
 ·have lo:=(TO (I:=I) L n i D k hk hl).2 hc
  exact rr [pk (AK 110 101 3 3 ((D).map (AG)) ((D).length:Int)),pk (As 3 (k:Int) ((D).length:Int)),pl (lo)]
def ZC (L:List Nd)(n:Nat)(i:Int):Go.Proofs.YtdgbealknnmkoaaGreatDoor.St:=⟨[(0,.t (slI 1 ((Au L).map (Ag)))),(1,.t (slI 3 ((AD L).map (AG)))),(2,.t (slI 1 ((BY L).map (Bo)))),(7,.i (n:Int)),(8,.t (slI 1 ((clt L (L.length / 2)).map (Ag)))),(12,.i i)],[],50⟩
theorem ZD (L : List Nd) (n : Nat) (hn : L.length = n) (hl : n ≤ 2002) (hD : Dn L (L.length - 1)) :
  (AT (ouC L) n 0=0→LoopTr Tryz.prog I 192 (Bj Tryz.prog 114 1) (ZC L n ((0:Nat):Int)) (.exit 2) ⟨[],[],50⟩)∧(AT (ouC L) n 0≠0→LoopTr Tryz.prog I 192 (Bj Tryz.prog 114 1) (ZC L n ((0:Nat):Int)) .ret (Q1 130)):=by
 have pre : ∀ i,i < n→Sp Tryz.prog I 76 [Q7 L,Ry L,ci (i:Int)] (tit (deI (Bh L i))):=fun i hi=>Mg L (by omega) i (by omega) fun x h0 hx=>hD x h0 (by omega)
 have plen : ∀ i,(Bh L i).length≤i:=GS L;refine CS (ouC L) n (fun i=>ZC L n (i:Int)) (fun _=>Q1 130) (fun i hi hc => ?_) ?_ (fun i hi hc => ?_)
 ·have ec : i < (clt L (L.length / 2)).length := by rw [Gf]; omega
  have es:i < (BY L).length:=by rw[Gu];omega
  have hp:=pre i hi;have hlen:=plen i;unfold ouC at hc;by_cases k0:cpC L i=0
  ·rw [if_neg (fun h => h k0)] at hc
   by_cases k3:32 < (Bh L i).length
   ·rw[if_pos k3] at hc;omega
   ·rw[if_neg k3] at hc
    have lo:=(TK (I:=I) L n i (Bh L i) (by omega)).1 hc
    unfold cpC at k0;generalize Bh L i=D at *;by_cases k1:2 < iat (clt L (L.length / 2)) i
    ·rw[if_pos k1] at k0;omega
    ·rw[if_neg k1] at k0
     by_cases hc:iat (clt L (L.length / 2)) i=2
     ·rw[decide_eq_true hc] at k0
      cases hs:decide ((tat L i).st=1) with
      | true =>
       have hst:=(FK (L:=L) (i:=i) (by omega)).trans hs
       exact rr [pk (As 3 (i:Int) (n:Int)),pk (Ah 40 3 1 ((clt L (L.length / 2)).map (Ag)) i (i:Int) (Ag (iat (clt L (L.length / 2)) i)) (Ay ec)),pk (Ao 3 (iat (clt L (L.length / 2)) i) 2),pk (Ah 111 4 1 ((BY L).map (Bo)) i (i:Int) ([.lit (.bool true)]) (KO es hst)),pk (Ah 40 3 1 ((clt L (L.length / 2)).map (Ag)) i (i:Int) (Ag (iat (clt L (L.length / 2)) i)) (Ay ec)),pk (Ba 3 (iat (clt L (L.length / 2)) i) 2 true (decide_eq_true hc)),pa,po (hp),pk (AK 110 101 3 3 ((D).map (AG)) ((D).length:Int)),pk (Ao 3 ((D).length:Int) 32),pl (lo),pk (Az 3 (i:Int) 1 ⟨by omega,by omega⟩)]
      | false=>rw[hs] at k0;simp at k0
     ·rw[decide_eq_false hc] at k0
      cases hs:decide ((tat L i).st=1) with
      | true=>rw[hs] at k0;simp at k0
      | false =>
       have hst:=(FK (L:=L) (i:=i) (by omega)).trans hs
       exact rr [pk (As 3 (i:Int) (n:Int)),pk (Ah 40 3 1 ((clt L (L.length / 2)).map (Ag)) i (i:Int) (Ag (iat (clt L (L.length / 2)) i)) (Ay ec)),pk (Ao 3 (iat (clt L (L.length / 2)) i) 2),pk (Ah 111 4 1 ((BY L).map (Bo)) i (i:Int) ([.lit (.bool false)]) (KO es hst)),pk (Ah 40 3 1 ((clt L (L.length / 2)).map (Ag)) i (i:Int) (Ag (iat (clt L (L.length / 2)) i)) (Ay ec)),pk (Ba 3 (iat (clt L (L.length / 2)) i) 2 false (decide_eq_false hc)),pa,po (hp),pk (AK 110 101 3 3 ((D).map (AG)) ((D).length:Int)),pk (Ao 3 ((D).length:Int) 32),pl (lo),pk (Az 3 (i:Int) 1 ⟨by omega,by omega⟩)]
  ·rw[if_pos k0] at hc;exact absurd hc k0
 ·exact rr [pk (Aj 3 (n:Int) (n:Int))]
 ·have ec : i < (clt L (L.length / 2)).length := by rw [Gf]; omega
  have es:i < (BY L).length:=by rw[Gu];omega
  have hp:=pre i hi;have hlen:=plen i;unfold ouC at hc;have lm:=TK (I:=I) L n i (Bh L i) (by omega)
  generalize Bh L i=D at *;by_cases k1:2 < iat (clt L (L.length / 2)) i
  ·exact rr [pk (As 3 (i:Int) (n:Int)),pk (Ah 40 3 1 ((clt L (L.length / 2)).map (Ag)) i (i:Int) (Ag (iat (clt L (L.length / 2)) i)) (Ay ec)),pk (BN 3 (iat (clt L (L.length / 2)) i) 2)]
  ·have kc:cpC L i=if decide ((tat L i).st=1)=decide (iat (clt L (L.length / 2)) i=2) then 0 else 1:=by unfold cpC;rw[if_neg k1]
   rw[kc] at hc;by_cases hc2:iat (clt L (L.length / 2)) i=2
   ·rw[decide_eq_true hc2] at hc
    have hcc:=hc;cases hs:decide ((tat L i).st=1) with
    | true =>
     have hst:=(FK (L:=L) (i:=i) (by omega)).trans hs
     rw[hs] at hc;simp only[if_true,ne_eq,not_true,if_false] at hc;by_cases k3:32 < D.length
     ·have hc:=hc2
      exact rr [pk (As 3 (i:Int) (n:Int)),pk (Ah 40 3 1 ((clt L (L.length / 2)).map (Ag)) i (i:Int) (Ag (iat (clt L (L.length / 2)) i)) (Ay ec)),pk (Ao 3 (iat (clt L (L.length / 2)) i) 2),pk (Ah 111 4 1 ((BY L).map (Bo)) i (i:Int) ([.lit (.bool true)]) (KO es hst)),pk (Ah 40 3 1 ((clt L (L.length / 2)).map (Ag)) i (i:Int) (Ag (iat (clt L (L.length / 2)) i)) (Ay ec)),pk (Ba 3 (iat (clt L (L.length / 2)) i) 2 true (decide_eq_true hc)),pa,po (hp),pk (AK 110 101 3 3 ((D).map (AG)) ((D).length:Int)),pk (BN 3 ((D).length:Int) 32)]
     ·rw[if_neg k3] at hc
      have lo:=lm.2 hc;have hc:=hc2;exact rr [pk (As 3 (i:Int) (n:Int)),pk (Ah 40 3 1 ((clt L (L.length / 2)).map (Ag)) i (i:Int) (Ag (iat (clt L (L.length / 2)) i)) (Ay ec)),pk (Ao 3 (iat (clt L (L.length / 2)) i) 2),pk (Ah 111 4 1 ((BY L).map (Bo)) i (i:Int) ([.lit (.bool true)]) (KO es hst)),pk (Ah 40 3 1 ((clt L (L.length / 2)).map (Ag)) i (i:Int) (Ag (iat (clt L (L.length / 2)) i)) (Ay ec)),pk (Ba 3 (iat (clt L (L.length / 2)) i) 2 true (decide_eq_true hc)),pa,po (hp),pk (AK 110 101 3 3 ((D).map (AG)) ((D).length:Int)),pk (Ao 3 ((D).length:Int) 32),pl (lo)]
    | false =>
     have hst:=(FK (L:=L) (i:=i) (by omega)).trans hs
     have hc:=hc2;exact rr [pk (As 3 (i:Int) (n:Int)),pk (Ah 40 3 1 ((clt L (L.length / 2)).map (Ag)) i (i:Int) (Ag (iat (clt L (L.length / 2)) i)) (Ay ec)),pk (Ao 3 (iat (clt L (L.length / 2)) i) 2),pk (Ah 111 4 1 ((BY L).map (Bo)) i (i:Int) ([.lit (.bool false)]) (KO es hst)),pk (Ah 40 3 1 ((clt L (L.length / 2)).map (Ag)) i (i:Int) (Ag (iat (clt L (L.length / 2)) i)) (Ay ec)),pk (Ba 3 (iat (clt L (L.length / 2)) i) 2 true (decide_eq_true hc)),pa]
   ·rw[decide_eq_false hc2] at hc
    cases hs:decide ((tat L i).st=1) with
    | true =>
     have hst:=(FK (L:=L) (i:=i) (by omega)).trans hs
     have hc:=hc2;exact rr [pk (As 3 (i:Int) (n:Int)),pk (Ah 40 3 1 ((clt L (L.length / 2)).map (Ag)) i (i:Int) (Ag (iat (clt L (L.length / 2)) i)) (Ay ec)),pk (Ao 3 (iat (clt L (L.length / 2)) i) 2),pk (Ah 111 4 1 ((BY L).map (Bo)) i (i:Int) ([.lit (.bool true)]) (KO es hst)),pk (Ah 40 3 1 ((clt L (L.length / 2)).map (Ag)) i (i:Int) (Ag (iat (clt L (L.length / 2)) i)) (Ay ec)),pk (Ba 3 (iat (clt L (L.length / 2)) i) 2 false (decide_eq_false hc)),pa]
    | false =>
     have hst:=(FK (L:=L) (i:=i) (by omega)).trans hs
     rw[hs] at hc;simp only[if_true,ne_eq,not_true,if_false] at hc;by_cases k3:32 < D.length
     ·have hc:=hc2
      exact rr [pk (As 3 (i:Int) (n:Int)),pk (Ah 40 3 1 ((clt L (L.length / 2)).map (Ag)) i (i:Int) (Ag (iat (clt L (L.length / 2)) i)) (Ay ec)),pk (Ao 3 (iat (clt L (L.length / 2)) i) 2),pk (Ah 111 4 1 ((BY L).map (Bo)) i (i:Int) ([.lit (.bool false)]) (KO es hst)),pk (Ah 40 3 1 ((clt L (L.length / 2)).map (Ag)) i (i:Int) (Ag (iat (clt L (L.length / 2)) i)) (Ay ec)),pk (Ba 3 (iat (clt L (L.length / 2)) i) 2 false (decide_eq_false hc)),pa,po (hp),pk (AK 110 101 3 3 ((D).map (AG)) ((D).length:Int)),pk (BN 3 ((D).length:Int) 32)]
     ·rw[if_neg k3] at hc
      have lo:=lm.2 hc;have hc:=hc2;exact rr [pk (As 3 (i:Int) (n:Int)),pk (Ah 40 3 1 ((clt L (L.length / 2)).map (Ag)) i (i:Int) (Ag (iat (clt L (L.length / 2)) i)) (Ay ec)),pk (Ao 3 (iat (clt L (L.length / 2)) i) 2),pk (Ah 111 4 1 ((BY L).map (Bo)) i (i:Int) ([.lit (.bool false)]) (KO es hst)),pk (Ah 40 3 1 ((clt L (L.length / 2)).map (Ag)) i (i:Int) (Ag (iat (clt L (L.length / 2)) i)) (Ay ec)),pk (Ba 3 (iat (clt L (L.length / 2)) i) 2 false (decide_eq_false hc)),pa,po (hp),pk (AK 110 101 3 3 ((D).map (AG)) ((D).length:Int)),pk (Ao 3 ((D).length:Int) 32),pl (lo)]
end
def rpB (L:List Nd):Bool:=rtB L&&((List.range (L.length / 2)).all (prB L))&&decide (AT (ouC L) L.length 0=0)
section
variable {I:WInv}{c c':Bool}
theorem Vk (L:List Nd)(n M:Nat)(hn:L.length=n)(hM:n=2*M+1)(hl:n≤2002)(h : ∀ x,x < M→prB L x=true) :
  LoopTr Tryz.prog I 192 (Bj Tryz.prog 114 0) (Ms L n (clt L 0) (2*((0:Nat):Int)+1)) (.exit 0) ⟨[(0,.t (slI 1 ((Au L).map (Ag)))),(1,.t (slI 3 ((AD L).map (AG)))),(2,.t (slI 1 ((BY L).map (Bo)))),(7,.i (n:Int)),(8,.s 25)],[(25,some ⟨3,some (1,n),Ad ((clt L M).map Ag)⟩)],50⟩ :=
 Ck (by simp) (fun m=>Ms L n (clt L m) (2*(m:Int)+1)) M (fun m hm=>(G3 L n hn m (by omega) hl).1 (h m hm)) (by
  exact Rnd.nam [] (show Rnd _ _ _ _ _ _ ⟨[(0,.t (slI 1 ((Au L).map (Ag)))),(1,.t (slI 3 ((AD L).map (AG)))),(2,.t (slI 1 ((BY L).map (Bo)))),(7,.i (n:Int)),(8,.s 25)],[(25,some ⟨3,some (1,n),Ad ((clt L M).map Ag)⟩)],53⟩ from rr [pk (Aj 3 (2*(M:Int)+1) (n:Int))]) (t:=⟨[(0,.t (slI 1 ((Au L).map (Ag)))),(1,.t (slI 3 ((AD L).map (AG)))),(2,.t (slI 1 ((BY L).map (Bo)))),(7,.i (n:Int)),(8,.s 25)],[(25,some ⟨3,some (1,n),Ad ((clt L M).map Ag)⟩)],50⟩) ⟨rfl,TVle.refl,rfl,TVle.refl,rfl,TVle.refl,rfl,TVle.refl,rfl,TVle.refl,trivial⟩ ⟨rfl,rfl,rfl,ILe.refl,trivial⟩)
theorem Vj (L:List Nd)(n i:Nat)(hn:L.length=n)(hi:2*i+2 < n)(hl:n≤2002)(h : ∀ x,x < i→prB L x=true)(hb:prB L i=false) :
  LoopTr Tryz.prog I 192 (Bj Tryz.prog 114 0) (Ms L n (clt L 0) (2*((0:Nat):Int)+1)) .ret (Q1 50) :=
 Ck (by simp) (fun m=>Ms L n (clt L m) (2*(m:Int)+1)) i (fun m hm=>(G3 L n hn m (by omega) hl).1 (h m hm)) ((G3 L n hn i hi hl).2 hb)
theorem Xq (L : List Nd) (h0 : 0 < L.length) (hl : L.length ≤ 2002) : Sp Tryz.prog I 114 [Q7 L, Ry L, Abu L] (lb (rpB L)) := by
 obtain ⟨n,hn⟩ : ∃ n,L.length=n:=⟨_,rfl⟩;have hlp:=Db L;have e0:0 < (Au L).length:=by rw[Db];exact h0
 have f0:0 < (AD L).length:=by rw[EL];exact h0
 have g0:=JA h0;have hz:=VY (I:=I) (dat (AD L) 0);rw[JW h0] at hz;have d0:=JW h0;by_cases q3:L.length % 2=1
 ·by_cases q1 : (tat L 0).par = -1
  ·by_cases q2:dcn (tat L 0)=(0,0,false)
   ·rw[decide_eq_true q2,←d0] at hz
    obtain ⟨M,hM⟩ : ∃ M,L.length=2*M+1:=⟨L.length / 2,by omega⟩
    have hM2:L.length / 2=M:=by omega
    have hz0:clt L 0=List.replicate L.length 0:=rfl;rcases Of (prB L) M with h | ⟨i,h1,h2,h3⟩
    ·have lo:=Vk (I:=I) L n M hn (by omega) (by omega) h
     unfold Ms at lo;rw[hz0,Ny,hn,show 2*((0:Nat):Int)+1=1 from rfl] at lo;have lo2:=ZD (I:=I) L n hn (by omega) (by have:=SK (L:=L) (m:=M) h;rw[hM];exact this)
     unfold ZC at lo2;rw[hM2] at lo2;by_cases k:AT (ouC L) n 0=0
     ·rw[show rpB L=true by unfold rpB rtB;rw[hM2,hn];simp[q1,q2,k,hn▸q3];exact h]
      have lo2:=lo2.1 k;rw[hM2] at *;exact sr 192 [pk (AK 40 3 3 1 ((Au L).map (Ag)) (n:Int)),pk (Af 3 (n:Int) 0),pk (DX 3 (n:Int) 2 (by omega)),pk (Ba 3 (((n:Int)).tmod 2) 0 false (decide_eq_false (by rw[Int.tmod_eq_emod_of_nonneg (by omega)];omega))),pk (Ah 40 3 1 ((Au L).map (Ag)) 0 0 (Ag (iat (Au L) 0)) (Ay e0)),pk (At 3 (iat (Au L) 0) (-1)),pk (Ah 110 101 3 ((AD L).map (AG)) 0 0 (AG (dat (AD L) 0)) (Bd f0)),po (hz),pa,⟨.mk (n:Int) n 8,⟨rfl,by omega,by simp only[maxLen];omega⟩⟩,⟨.mk (n:Int) n 8,⟨rfl,by omega,by simp only[maxLen];omega⟩⟩,pl (lo),pm (AH (I:=I) (t:=8) (k:=25) (E:=[(0,.t (slI 1 ((Au L).map (Ag)))),(1,.t (slI 3 ((AD L).map (AG)))),(2,.t (slI 1 ((BY L).map (Bo)))),(7,.i (n:Int))]) (B:=[]) (nx:=50) (T:=3) (sz:=1) (n:=n) ((clt L M).map Ag) rfl (by rw[List.length_map,Gf];exact hn.symm) L2 rfl),pl (lo2)]
     ·rw[show rpB L=false by unfold rpB;rw[hn,decide_eq_false k,Bool.and_false]]
      have lo2:=lo2.2 k;exact sr 192 [pk (AK 40 3 3 1 ((Au L).map (Ag)) (n:Int)),pk (Af 3 (n:Int) 0),pk (DX 3 (n:Int) 2 (by omega)),pk (Ba 3 (((n:Int)).tmod 2) 0 false (decide_eq_false (by rw[Int.tmod_eq_emod_of_nonneg (by omega)];omega))),pk (Ah 40 3 1 ((Au L).map (Ag)) 0 0 (Ag (iat (Au L) 0)) (Ay e0)),pk (At 3 (iat (Au L) 0) (-1)),pk (Ah 110 101 3 ((AD L).map (AG)) 0 0 (AG (dat (AD L) 0)) (Bd f0)),po (hz),pa,⟨.mk (n:Int) n 8,⟨rfl,by omega,by simp only[maxLen];omega⟩⟩,⟨.mk (n:Int) n 8,⟨rfl,by omega,by simp only[maxLen];omega⟩⟩,pl (lo),pm (AH (I:=I) (t:=8) (k:=25) (E:=[(0,.t (slI 1 ((Au L).map (Ag)))),(1,.t (slI 3 ((AD L).map (AG)))),(2,.t (slI 1 ((BY L).map (Bo)))),(7,.i (n:Int))]) (B:=[]) (nx:=50) (T:=3) (sz:=1) (n:=n) ((clt L M).map Ag) rfl (by rw[List.length_map,Gf];exact hn.symm) L2 rfl),pl (lo2)]
    ·have lo:=Vj (I:=I) L n i hn (by omega) (by omega) h2 h3
     unfold Ms at lo;rw[hz0,Ny,hn,show 2*((0:Nat):Int)+1=1 from rfl] at lo;rw[show rpB L=false by
      unfold rpB;rw[Bool.and_eq_false_iff,Bool.and_eq_false_iff];left;right;rw[List.all_eq_false];exact ⟨i,List.mem_range.2 (by omega),by simp[h3]⟩]
     exact sr 192 [pk (AK 40 3 3 1 ((Au L).map (Ag)) (n:Int)),pk (Af 3 (n:Int) 0),pk (DX 3 (n:Int) 2 (by omega)),pk (Ba 3 (((n:Int)).tmod 2) 0 false (decide_eq_false (by rw[Int.tmod_eq_emod_of_nonneg (by omega)];omega))),pk (Ah 40 3 1 ((Au L).map (Ag)) 0 0 (Ag (iat (Au L) 0)) (Ay e0)),pk (At 3 (iat (Au L) 0) (-1)),pk (Ah 110 101 3 ((AD L).map (AG)) 0 0 (AG (dat (AD L) 0)) (Bd f0)),po (hz),pa,⟨.mk (n:Int) n 8,⟨rfl,by omega,by simp only[maxLen];omega⟩⟩,⟨.mk (n:Int) n 8,⟨rfl,by omega,by simp only[maxLen];omega⟩⟩,pl (lo)]
   ·rw[decide_eq_false q2,←d0] at hz
    rw[show rpB L=false by unfold rpB rtB;simp[q2]]
    exact sr 192 [pk (AK 40 3 3 1 ((Au L).map (Ag)) (n:Int)),pk (Af 3 (n:Int) 0),pk (DX 3 (n:Int) 2 (by omega)),pk (Ba 3 (((n:Int)).tmod 2) 0 false (decide_eq_false (by rw[Int.tmod_eq_emod_of_nonneg (by omega)];omega))),pk (Ah 40 3 1 ((Au L).map (Ag)) 0 0 (Ag (iat (Au L) 0)) (Ay e0)),pk (At 3 (iat (Au L) 0) (-1)),pk (Ah 110 101 3 ((AD L).map (AG)) 0 0 (AG (dat (AD L) 0)) (Bd f0)),po (hz),pa]
  ·rw[show rpB L=false by unfold rpB rtB;simp[q1]]
   exact sr 192 [pk (AK 40 3 3 1 ((Au L).map (Ag)) (n:Int)),pk (Af 3 (n:Int) 0),pk (DX 3 (n:Int) 2 (by omega)),pk (Ba 3 (((n:Int)).tmod 2) 0 false (decide_eq_false (by rw[Int.tmod_eq_emod_of_nonneg (by omega)];omega))),pk (Ah 40 3 1 ((Au L).map (Ag)) 0 0 (Ag (iat (Au L) 0)) (Ay e0)),pk (AR 3 (iat (Au L) 0) (-1))]
 ·rw[show rpB L=false by unfold rpB rtB;simp[q3]]
  exact sr 192 [pk (AK 40 3 3 1 ((Au L).map (Ag)) (n:Int)),pk (Af 3 (n:Int) 0),pk (DX 3 (n:Int) 2 (by omega)),pk (Ba 3 (((n:Int)).tmod 2) 0 true (decide_eq_true (by rw[Int.tmod_eq_emod_of_nonneg (by omega)];omega)))]
end
def PG (f:Bool)(z:Int)(q:Rat):Bool:=f&&decide (z≤civ q)
def bdC (L:List Nd)(i:Nat):Int:=if (tat L i).q < (tat L (tat L i).par.toNat).q then 12 else 0
def rsC (L:List Nd)(f:Bool)(z:Int)(i:Nat):Int:=if (tat L i).st=1 then 0 else if decide ((tat L i).st=2)=PG f z (tat L i).q then 0 else 16
def rvc (L:List Nd)(f:Bool)(z:Int):Int :=
 if L.length < 1∨2000 < L.length then 10 else if BS z=false∨(f=false∧z≠0) then 5 else if AT (CE L) L.length 0≠0 then AT (CE L) L.length 0 else if rpB L=false then 12 else
 if AT (fun j=>bdC L (j+1)) (L.length - 1) 0≠0 then AT (fun j=>bdC L (j+1)) (L.length - 1) 0 else AT (rsC L f z) L.length 0
section
variable {I:WInv}{c c':Bool}
theorem Ou (L:List Nd)(f:Bool)(z:Int)(q:Rat):Sp Tryz.prog I 77 [trT c L f z,fc c' 12 q] (lb (PG f z q)):=by
 unfold PG;cases f with
 | false=>exact sr 20 [po (BI (I:=I) (c:=c') (p:=q))]
 | true =>
  by_cases h:z≤civ q
  ·rw[decide_eq_true h]
   exact sr 20 [po (BI (I:=I) (c:=c') (p:=q)),pk (B0 3 (civ q) z)]
  ·rw[decide_eq_false h]
   exact sr 20 [po (BI (I:=I) (c:=c') (p:=q)),pk (Cu 3 (civ q) z)]
def rv1 (c:Bool)(L:List Nd)(f:Bool)(z:Int)(n:Nat)(i:Int):Go.Proofs.YtdgbealknnmkoaaGreatDoor.St:=⟨[(1,.p 0 0),(3,.i (n:Int)),(4,.i i)],[(0,some ⟨46,none,[.b (.it (slI 9 ((L).map (Al c)))),.o f,.i z]⟩)],50⟩
def rv2 (c:Bool)(L:List Nd)(f:Bool)(z:Int)(n:Nat)(i:Int):Go.Proofs.YtdgbealknnmkoaaGreatDoor.St:=⟨[(1,.p 0 0),(3,.i (n:Int)),(7,.t (slI 1 ((Au L).map (Ag)))),(9,.t (slI 1 ((BY L).map (Bo)))),(10,.i i)],[(0,some ⟨46,none,[.b (.it (slI 9 ((L).map (Al c)))),.o f,.i z]⟩)],50⟩
def rv3 (c:Bool)(L:List Nd)(f:Bool)(z:Int)(n:Nat)(i:Int):Go.Proofs.YtdgbealknnmkoaaGreatDoor.St:=⟨[(1,.p 0 0),(3,.i (n:Int)),(9,.t (slI 1 ((BY L).map (Bo)))),(11,.i i)],[(0,some ⟨46,none,[.b (.it (slI 9 ((L).map (Al c)))),.o f,.i z]⟩)],50⟩
theorem KW (L:List Nd)(f:Bool)(z:Int)(n:Nat)(hn:L.length=n)(hl:n≤2000)(i:Nat)(hi:i < L.length) :
  (CE L i=0→Rnd Tryz.prog I 131 (Bj Tryz.prog 70 0) (rv1 c L f z n (i:Int)) .normal (rv1 c L f z n ((i+1:Nat):Int)))∧(CE L i≠0→Rnd Tryz.prog I 131 (Bj Tryz.prog 70 0) (rv1 c L f z n (i:Int)) .ret ⟨[(2,li 5)],[],50⟩):=by
 cases h3:okc (tat L i).q with
 | false =>
  have e:=PD h3;refine ⟨fun h => ?_,fun _ => ?_⟩
  ·unfold CE at h
   rw[h3] at h;split at h
   ·omega
   ·exact absurd h (by decide)
  ·by_cases h1:(tat L i).st < 0
   ·exact rr [pk (As 3 (i:Int) (n:Int)),pk (Ah 44 103 9 ((L).map (Al c)) i (i:Int) ((Al c) (tat L i)) (Bg hi)),po (BI (I:=I) (c:=c) (p:=(tat L i).q)),pk (Ah 44 103 9 ((L).map (Al c)) i (i:Int) ((Al c) (tat L i)) (Bg hi)),pk (As 3 ((tat L i).st) 0)]
   ·by_cases h2:2 < (tat L i).st
    ·exact rr [pk (As 3 (i:Int) (n:Int)),pk (Ah 44 103 9 ((L).map (Al c)) i (i:Int) ((Al c) (tat L i)) (Bg hi)),po (BI (I:=I) (c:=c) (p:=(tat L i).q)),pk (Ah 44 103 9 ((L).map (Al c)) i (i:Int) ((Al c) (tat L i)) (Bg hi)),pk (Aj 3 ((tat L i).st) 0),pk (Ah 44 103 9 ((L).map (Al c)) i (i:Int) ((Al c) (tat L i)) (Bg hi)),pk (BN 3 ((tat L i).st) 2)]
    ·exact rr [pk (As 3 (i:Int) (n:Int)),pk (Ah 44 103 9 ((L).map (Al c)) i (i:Int) ((Al c) (tat L i)) (Bg hi)),po (BI (I:=I) (c:=c) (p:=(tat L i).q)),pk (Ah 44 103 9 ((L).map (Al c)) i (i:Int) ((Al c) (tat L i)) (Bg hi)),pk (Aj 3 ((tat L i).st) 0),pk (Ah 44 103 9 ((L).map (Al c)) i (i:Int) ((Al c) (tat L i)) (Bg hi)),pk (Ao 3 ((tat L i).st) 2),pk (AR 32 (cie ((tat L i).q)) 0)]
 | true =>
  have e:=MQ h3;by_cases h1:(tat L i).st < 0
  ·refine ⟨fun h=>absurd h (by unfold CE;rw[if_pos (.inl h1)];decide),fun _ => ?_⟩
   exact rr [pk (As 3 (i:Int) (n:Int)),pk (Ah 44 103 9 ((L).map (Al c)) i (i:Int) ((Al c) (tat L i)) (Bg hi)),po (BI (I:=I) (c:=c) (p:=(tat L i).q)),pk (Ah 44 103 9 ((L).map (Al c)) i (i:Int) ((Al c) (tat L i)) (Bg hi)),pk (As 3 ((tat L i).st) 0)]
  ·by_cases h2:2 < (tat L i).st
   ·refine ⟨fun h=>absurd h (by unfold CE;rw[if_pos (.inr h2)];decide),fun _ => ?_⟩
    exact rr [pk (As 3 (i:Int) (n:Int)),pk (Ah 44 103 9 ((L).map (Al c)) i (i:Int) ((Al c) (tat L i)) (Bg hi)),po (BI (I:=I) (c:=c) (p:=(tat L i).q)),pk (Ah 44 103 9 ((L).map (Al c)) i (i:Int) ((Al c) (tat L i)) (Bg hi)),pk (Aj 3 ((tat L i).st) 0),pk (Ah 44 103 9 ((L).map (Al c)) i (i:Int) ((Al c) (tat L i)) (Bg hi)),pk (BN 3 ((tat L i).st) 2)]
   ·refine ⟨fun _ => ?_,fun h=>absurd (show CE L i=0 by unfold CE;rw[if_neg (by omega),h3];rfl) h⟩
    exact rr [pk (As 3 (i:Int) (n:Int)),pk (Ah 44 103 9 ((L).map (Al c)) i (i:Int) ((Al c) (tat L i)) (Bg hi)),po (BI (I:=I) (c:=c) (p:=(tat L i).q)),pk (Ah 44 103 9 ((L).map (Al c)) i (i:Int) ((Al c) (tat L i)) (Bg hi)),pk (Aj 3 ((tat L i).st) 0),pk (Ah 44 103 9 ((L).map (Al c)) i (i:Int) ((Al c) (tat L i)) (Bg hi)),pk (Ao 3 ((tat L i).st) 2),pk (At 32 (cie ((tat L i).q)) 0),pk (Az 3 (i:Int) 1 ⟨by omega,by omega⟩)]
theorem KV (L:List Nd)(f:Bool)(z:Int)(n:Nat)(hn:L.length=n)(hl:n≤2000)(hD:Dn L (L.length - 1))(i:Nat)(h0:0 < i)(hi:i < L.length) :
  (bdC L i=0→Rnd Tryz.prog I 131 (Bj Tryz.prog 70 1) (rv2 c L f z n (i:Int)) .normal (rv2 c L f z n ((i+1:Nat):Int)))∧(bdC L i≠0→Rnd Tryz.prog I 131 (Bj Tryz.prog 70 1) (rv2 c L f z n (i:Int)) .ret ⟨[(2,li 12)],[],50⟩):=by
 have ei:i < (Au L).length:=by rw[Db];exact hi
 obtain ⟨p,hpe,hlt⟩:=hD.nat h0 (by omega)
 have hp:p < L.length:=by omega
 have g:=JA hi;have ht:(tat L i).par.toNat=p:=by omega
 unfold bdC;rw[ht];by_cases h:(tat L i).q < (tat L p).q
 ·rw[if_pos h]
  refine ⟨fun h=>by omega,fun _ => ?_⟩
  exact rr [pk (As 3 (i:Int) (n:Int)),pk (Ah 44 103 9 ((L).map (Al c)) i (i:Int) ((Al c) (tat L i)) (Bg hi)),pk (Ah 40 3 1 ((Au L).map (Ag)) i (i:Int) (Ag (iat (Au L) i)) (Ay ei)),pk (Ah 44 103 9 ((L).map (Al c)) p (iat (Au L) i) ((Al c) (tat L p)) (Bg hp)),po (P7 (I:=I) (c:=c) (c':=c) (p:=(tat L i).q) (q:=(tat L p).q)),pk (EQ 3 (FF ((tat L i).q) ((tat L p).q)) 0 true (Y7 (by grind)))]
 ·rw[if_neg h]
  refine ⟨fun _ => ?_,fun h=>by omega⟩
  exact rr [pk (As 3 (i:Int) (n:Int)),pk (Ah 44 103 9 ((L).map (Al c)) i (i:Int) ((Al c) (tat L i)) (Bg hi)),pk (Ah 40 3 1 ((Au L).map (Ag)) i (i:Int) (Ag (iat (Au L) i)) (Ay ei)),pk (Ah 44 103 9 ((L).map (Al c)) p (iat (Au L) i) ((Al c) (tat L p)) (Bg hp)),po (P7 (I:=I) (c:=c) (c':=c) (p:=(tat L i).q) (q:=(tat L p).q)),pk (EQ 3 (FF ((tat L i).q) ((tat L p).q)) 0 false (VM (by grind))),pk (Az 3 (i:Int) 1 ⟨by omega,by omega⟩)]
theorem KU (L:List Nd)(f:Bool)(z:Int)(n:Nat)(hn:L.length=n)(hl:n≤2000)(i:Nat)(hi:i < L.length) :
  (rsC L f z i=0→Rnd Tryz.prog I 131 (Bj Tryz.prog 70 2) (rv3 c L f z n (i:Int)) .normal (rv3 c L f z n ((i+1:Nat):Int)))∧(rsC L f z i≠0→Rnd Tryz.prog I 131 (Bj Tryz.prog 70 2) (rv3 c L f z n (i:Int)) .ret ⟨[(2,li 16)],[],50⟩):=by
 have es:i < (BY L).length:=by rw[Gu];exact hi
 have hb:=Ou (I:=I) (c:=c) (c':=c) L f z (tat L i).q;have hs:=FK hi;unfold rsC;by_cases h1:(tat L i).st=1
 ·rw[decide_eq_true h1] at hs
  rw[if_pos h1];refine ⟨fun _ => ?_,fun h=>absurd rfl h⟩
  exact rr [pk (As 3 (i:Int) (n:Int)),pk (Ah 111 4 1 ((BY L).map (Bo)) i (i:Int) ([.lit (.bool true)]) (KO es hs)),pa,pk (Az 3 (i:Int) 1 ⟨by omega,by omega⟩)]
 ·rw[decide_eq_false h1] at hs
  rw[if_neg h1];cases hbe:PG f z (tat L i).q with
  | true =>
   rw[hbe] at hb;by_cases h2:(tat L i).st=2
   ·rw[decide_eq_true h2,if_pos rfl]
    refine ⟨fun _ => ?_,fun h=>absurd rfl h⟩
    exact rr [pk (As 3 (i:Int) (n:Int)),pk (Ah 111 4 1 ((BY L).map (Bo)) i (i:Int) ([.lit (.bool false)]) (KO es hs)),pa,pk (Ah 44 103 9 ((L).map (Al c)) i (i:Int) ((Al c) (tat L i)) (Bg hi)),pk (Ak 3 ((tat L i).st) 2),pk (Ah 44 103 9 ((L).map (Al c)) i (i:Int) ((Al c) (tat L i)) (Bg hi)),po (hb),pa,pk (Az 3 (i:Int) 1 ⟨by omega,by omega⟩)]
   ·rw[decide_eq_false h2,if_neg (by simp)]
    refine ⟨fun h=>by omega,fun _ => ?_⟩
    exact rr [pk (As 3 (i:Int) (n:Int)),pk (Ah 111 4 1 ((BY L).map (Bo)) i (i:Int) ([.lit (.bool false)]) (KO es hs)),pa,pk (Ah 44 103 9 ((L).map (Al c)) i (i:Int) ((Al c) (tat L i)) (Bg hi)),pk (Af 3 ((tat L i).st) 2),pk (Ah 44 103 9 ((L).map (Al c)) i (i:Int) ((Al c) (tat L i)) (Bg hi)),po (hb),pa]
  | false =>
   rw[hbe] at hb;by_cases h2:(tat L i).st=2
   ·rw[decide_eq_true h2,if_neg (by simp)]
    refine ⟨fun h=>by omega,fun _ => ?_⟩
    exact rr [pk (As 3 (i:Int) (n:Int)),pk (Ah 111 4 1 ((BY L).map (Bo)) i (i:Int) ([.lit (.bool false)]) (KO es hs)),pa,pk (Ah 44 103 9 ((L).map (Al c)) i (i:Int) ((Al c) (tat L i)) (Bg hi)),pk (Ak 3 ((tat L i).st) 2),pk (Ah 44 103 9 ((L).map (Al c)) i (i:Int) ((Al c) (tat L i)) (Bg hi)),po (hb),pa]
   ·rw[decide_eq_false h2,if_pos rfl]
    refine ⟨fun _ => ?_,fun h=>absurd rfl h⟩
    exact rr [pk (As 3 (i:Int) (n:Int)),pk (Ah 111 4 1 ((BY L).map (Bo)) i (i:Int) ([.lit (.bool false)]) (KO es hs)),pa,pk (Ah 44 103 9 ((L).map (Al c)) i (i:Int) ((Al c) (tat L i)) (Bg hi)),pk (Af 3 ((tat L i).st) 2),pk (Ah 44 103 9 ((L).map (Al c)) i (i:Int) ((Al c) (tat L i)) (Bg hi)),po (hb),pa,pk (Az 3 (i:Int) 1 ⟨by omega,by omega⟩)]
theorem YP {L:List Nd}{i:Nat}(h:bdC L i≠0):bdC L i=12:=by
 unfold bdC at h ⊢;split
 ·rfl
 ·rename_i k;rw[if_neg k] at h;exact absurd rfl h
theorem Ab5 {L:List Nd}{f:Bool}{z:Int}{i:Nat}(h:rsC L f z i≠0):rsC L f z i=16:=by
 unfold rsC at h ⊢;split
 ·rename_i k;rw[if_pos k] at h;exact absurd rfl h
 ·rename_i k
  rw[if_neg k] at h;split
  ·rename_i k2;rw[if_pos k2] at h;exact absurd rfl h
  ·rfl
theorem OK {L:List Nd}(h:rpB L=true):Dn L (L.length - 1):=by
 unfold rpB rtB at h;simp only[Bool.and_eq_true,List.all_eq_true,List.mem_range,decide_eq_true_eq] at h;obtain ⟨⟨⟨_,h1⟩,h2⟩,_⟩:=h;have:=SK (L:=L) (m:=L.length / 2) h2;rw[show L.length - 1=2*(L.length / 2) by omega]
 exact this
theorem RS (L:List Nd)(f:Bool)(z:Int)(hl:L.length≤2000) :
  ((AT (CE L) L.length 0=0→LoopTr Tryz.prog I 131 (Bj Tryz.prog 70 0) (rv1 c L f z L.length ((0:Nat):Int)) (.exit 0) ⟨[(1,.p 0 0),(3,.i ((L).length:Int))],[(0,some ⟨46,none,[.b (.it (slI 9 ((L).map (Al c)))),.o f,.i z]⟩)],50⟩)∧(AT (CE L) L.length 0≠0→LoopTr Tryz.prog I 131 (Bj Tryz.prog 70 0) (rv1 c L f z L.length ((0:Nat):Int)) .ret ⟨[(2,li (AT (CE L) L.length 0))],[],50⟩)) ∧
  (Dn L (L.length - 1)→0 < L.length→(AT (fun j=>bdC L (j+1)) (L.length - 1) 0=0→LoopTr Tryz.prog I 131 (Bj Tryz.prog 70 1) (rv2 c L f z L.length ((1:Nat):Int)) (.exit 2) ⟨[(1,.p 0 0),(3,.i ((L).length:Int)),(9,.t (slI 1 ((BY L).map (Bo))))],[(0,some ⟨46,none,[.b (.it (slI 9 ((L).map (Al c)))),.o f,.i z]⟩)],50⟩)∧(AT (fun j=>bdC L (j+1)) (L.length - 1) 0≠0→LoopTr Tryz.prog I 131 (Bj Tryz.prog 70 1) (rv2 c L f z L.length ((1:Nat):Int)) .ret ⟨[(2,li (AT (fun j=>bdC L (j+1)) (L.length - 1) 0))],[],50⟩)) ∧
  ((AT (rsC L f z) L.length 0=0→LoopTr Tryz.prog I 131 (Bj Tryz.prog 70 2) (rv3 c L f z L.length ((0:Nat):Int)) (.exit 4) ⟨[],[],50⟩)∧(AT (rsC L f z) L.length 0≠0→LoopTr Tryz.prog I 131 (Bj Tryz.prog 70 2) (rv3 c L f z L.length ((0:Nat):Int)) .ret ⟨[(2,li (AT (rsC L f z) L.length 0))],[],50⟩)):=by
 refine ⟨?_,fun hD h0 => ?_,?_⟩
 ·refine CS (CE L) L.length (fun i=>rv1 c L f z L.length (i:Int)) (fun r=>⟨[(2,li r)],[],50⟩) (fun i hi hc=>(KW L f z _ rfl hl i hi).1 hc) ?_ (fun i hi hc => ?_)
  ·exact rr [pk (Aj 3 ((L).length:Int) ((L).length:Int))]
  ·rw[AbP hc]
   exact (KW L f z _ rfl hl i hi).2 hc
 ·refine CS (fun j=>bdC L (j+1)) (L.length - 1) (fun i=>rv2 c L f z L.length ((i+1:Nat):Int)) (fun r=>⟨[(2,li r)],[],50⟩) (fun i hi hc=>(KV L f z _ rfl hl hD (i+1) (by omega) (by omega)).1 hc) ?_ (fun i hi hc => ?_)
  ·rw[show L.length - 1+1=L.length by omega]
   exact rr [pk (Aj 3 ((L).length:Int) ((L).length:Int))]
  ·rw[YP hc]
   exact (KV L f z _ rfl hl hD (i+1) (by omega) (by omega)).2 hc
 ·refine CS (rsC L f z) L.length (fun i=>rv3 c L f z L.length (i:Int)) (fun r=>⟨[(2,li r)],[],50⟩) (fun i hi hc=>(KU L f z _ rfl hl i hi).1 hc) ?_ (fun i hi hc => ?_)
  ·exact rr [pk (Aj 3 ((L).length:Int) ((L).length:Int))]
  ·rw[Ab5 hc]
   exact (KU L f z _ rfl hl i hi).2 hc
theorem FM (L : List Nd) (f : Bool) (z : Int) (hl : L.length ≤ 1000000000) : Sp Tryz.prog I 70 [trT c L f z] (li (rvc L f z)) := by
 have hc:=EA (I:=I) z;unfold rvc;by_cases h1:L.length < 1
 ·rw[if_pos (.inl h1)]
  exact sr 131 [pk (AK 44 103 3 9 ((L).map (Al c)) ((L).length:Int)),pk (Ak 3 ((L).length:Int) 0)]
 ·by_cases h2 : 2000 < L.length
  ·rw[if_pos (.inr h2)]
   exact sr 131 [pk (AK 44 103 3 9 ((L).map (Al c)) ((L).length:Int)),pk (Af 3 ((L).length:Int) 0),pk (BN 3 ((L).length:Int) 2000)]
  ·rw [if_neg (by omega)]
   have hli:=X6 (I:=I) (c:=c) L f z (by omega)
   have hpa:=Xq (I:=I) L (by omega) (by omega)
   cases hcb:BS z with
   | false =>
    rw[hcb] at hc;rw[if_pos (.inl rfl)];exact sr 131 [pk (AK 44 103 3 9 ((L).map (Al c)) ((L).length:Int)),pk (Af 3 ((L).length:Int) 0),pk (Ao 3 ((L).length:Int) 2000),po (hc),pa]
   | true =>
    rw[hcb] at hc;obtain ⟨l1,l2,l3⟩:=RS (I:=I) (c:=c) L f z (by omega)
    have tail : ∀ (P0:AT (CE L) L.length 0≠0→Sp Tryz.prog I 70 [trT c L f z] (li (AT (CE L) L.length 0))) (P1:AT (CE L) L.length 0=0→rpB L=false→Sp Tryz.prog I 70 [trT c L f z] (li 12)) (P2:AT (CE L) L.length 0=0→rpB L=true→AT (fun j=>bdC L (j+1)) (L.length - 1) 0≠0→Sp Tryz.prog I 70 [trT c L f z] (li (AT (fun j=>bdC L (j+1)) (L.length - 1) 0)))
      (P3:AT (CE L) L.length 0=0→rpB L=true→AT (fun j=>bdC L (j+1)) (L.length - 1) 0=0→Sp Tryz.prog I 70 [trT c L f z] (li (AT (rsC L f z) L.length 0))),Sp Tryz.prog I 70 [trT c L f z] (li (if AT (CE L) L.length 0≠0 then AT (CE L) L.length 0 else if rpB L=false then 12 else if AT (fun j=>bdC L (j+1)) (L.length - 1) 0≠0 then AT (fun j=>bdC L (j+1)) (L.length - 1) 0 else AT (rsC L f z) L.length 0)):=by
     intro P0 P1 P2 P3;by_cases h5:AT (CE L) L.length 0=0
     ·rw[if_neg (fun h=>h h5)]
      cases h6:rpB L with
      | false=>rw[if_pos rfl];exact P1 h5 h6
      | true =>
       rw[if_neg (by decide)]
       by_cases h7:AT (fun j=>bdC L (j+1)) (L.length - 1) 0=0
       ·rw[if_neg (fun h=>h h7)];exact P3 h5 h6 h7
       ·rw[if_pos h7];exact P2 h5 h6 h7
     ·rw[if_pos h5];exact P0 h5
    cases f with
    | false =>
     by_cases hz:z=0
     ·rw[if_neg (by simp[hz])]
      refine tail (fun h5 => ?_) (fun h5 h6 => ?_) (fun h5 h6 h7 => ?_) (fun h5 h6 h7 => ?_)
      ·have lo:=l1.2 h5
       generalize AT (CE L) L.length 0=r at *;exact sr 131 [pk (AK 44 103 3 9 ((L).map (Al c)) ((L).length:Int)),pk (Af 3 ((L).length:Int) 0),pk (Ao 3 ((L).length:Int) 2000),po (hc),pa,pa,pk (At 3 z 0),pl (lo)]
      ·have lo:=l1.1 h5
       rw[h6] at hpa;exact sr 131 [pk (AK 44 103 3 9 ((L).map (Al c)) ((L).length:Int)),pk (Af 3 ((L).length:Int) 0),pk (Ao 3 ((L).length:Int) 2000),po (hc),pa,pa,pk (At 3 z 0),pl (lo),po (hli),po (hpa),pa]
      ·have lo:=l1.1 h5
       have lo2:=(l2 (OK h6) (by omega)).2 h7
       rw[h6] at hpa;generalize AT (fun j=>bdC L (j+1)) (L.length - 1) 0=r at *
       exact sr 131 [pk (AK 44 103 3 9 ((L).map (Al c)) ((L).length:Int)),pk (Af 3 ((L).length:Int) 0),pk (Ao 3 ((L).length:Int) 2000),po (hc),pa,pa,pk (At 3 z 0),pl (lo),po (hli),po (hpa),pa,pl (lo2)]
      ·have lo:=l1.1 h5
       have lo2:=(l2 (OK h6) (by omega)).1 h7
       rw[h6] at hpa;by_cases h8:AT (rsC L false z) L.length 0=0
       ·have lo3:=l3.1 h8
        rw[h8];exact sr 131 [pk (AK 44 103 3 9 ((L).map (Al c)) ((L).length:Int)),pk (Af 3 ((L).length:Int) 0),pk (Ao 3 ((L).length:Int) 2000),po (hc),pa,pa,pk (At 3 z 0),pl (lo),po (hli),po (hpa),pa,pl (lo2),pl (lo3)]
       ·have lo3:=l3.2 h8
        generalize AT (rsC L false z) L.length 0=r at *;exact sr 131 [pk (AK 44 103 3 9 ((L).map (Al c)) ((L).length:Int)),pk (Af 3 ((L).length:Int) 0),pk (Ao 3 ((L).length:Int) 2000),po (hc),pa,pa,pk (At 3 z 0),pl (lo),po (hli),po (hpa),pa,pl (lo2),pl (lo3)]
     ·rw[if_pos (.inr ⟨rfl,hz⟩)]
      exact sr 131 [pk (AK 44 103 3 9 ((L).map (Al c)) ((L).length:Int)),pk (Af 3 ((L).length:Int) 0),pk (Ao 3 ((L).length:Int) 2000),po (hc),pa,pa,pk (AR 3 z 0)]
    | true =>
     rw[if_neg (by simp)]
     refine tail (fun h5 => ?_) (fun h5 h6 => ?_) (fun h5 h6 h7 => ?_) (fun h5 h6 h7 => ?_)
     ·have lo:=l1.2 h5
      generalize AT (CE L) L.length 0=r at *;exact sr 131 [pk (AK 44 103 3 9 ((L).map (Al c)) ((L).length:Int)),pk (Af 3 ((L).length:Int) 0),pk (Ao 3 ((L).length:Int) 2000),po (hc),pa,pa,pl (lo)]
     ·have lo:=l1.1 h5
      rw[h6] at hpa;exact sr 131 [pk (AK 44 103 3 9 ((L).map (Al c)) ((L).length:Int)),pk (Af 3 ((L).length:Int) 0),pk (Ao 3 ((L).length:Int) 2000),po (hc),pa,pa,pl (lo),po (hli),po (hpa),pa]
     ·have lo:=l1.1 h5
      have lo2:=(l2 (OK h6) (by omega)).2 h7
      rw[h6] at hpa;generalize AT (fun j=>bdC L (j+1)) (L.length - 1) 0=r at *
      exact sr 131 [pk (AK 44 103 3 9 ((L).map (Al c)) ((L).length:Int)),pk (Af 3 ((L).length:Int) 0),pk (Ao 3 ((L).length:Int) 2000),po (hc),pa,pa,pl (lo),po (hli),po (hpa),pa,pl (lo2)]
     ·have lo:=l1.1 h5
      have lo2:=(l2 (OK h6) (by omega)).1 h7
      rw[h6] at hpa;by_cases h8:AT (rsC L true z) L.length 0=0
      ·have lo3:=l3.1 h8
       rw[h8];exact sr 131 [pk (AK 44 103 3 9 ((L).map (Al c)) ((L).length:Int)),pk (Af 3 ((L).length:Int) 0),pk (Ao 3 ((L).length:Int) 2000),po (hc),pa,pa,pl (lo),po (hli),po (hpa),pa,pl (lo2),pl (lo3)]
      ·have lo3:=l3.2 h8
       generalize AT (rsC L true z) L.length 0=r at *;exact sr 131 [pk (AK 44 103 3 9 ((L).map (Al c)) ((L).length:Int)),pk (Af 3 ((L).length:Int) 0),pk (Ao 3 ((L).length:Int) 2000),po (hc),pa,pa,pl (lo),po (hli),po (hpa),pa,pl (lo2),pl (lo3)]
end
theorem EB {L:List Nd}{m:Nat}(h:prB L m=true):(tat L (2*m+1)).par=((pp L m:Nat):Int)∧(tat L (2*m+2)).par=((pp L m:Nat):Int)∧pp L m≤2*m∧(tat L (2*m+2)).fst=(tat L (2*m+1)).fst∧(tat L (2*m+2)).nxt=(tat L (2*m+1)).nxt:=by
 unfold prB at h;simp only[Bool.and_eq_true,decide_eq_true_eq] at h;obtain ⟨⟨⟨⟨⟨⟨⟨p1,p2⟩,p3⟩,p4⟩,p5⟩,_⟩,_⟩,_⟩:=h;have e:dcn (tat L (2*m+2))=((tat L (2*m+1)).fst,(tat L (2*m+1)).nxt,false):=p5;unfold dcn at e;injection e with e1 e2;injection e2 with e2 e3;unfold pp;refine ⟨by omega,by omega,by omega,e1,e2⟩
section
variable {L:List Nd}{M:Nat}(hn:L.length=2*M+1)(hp : ∀ m,m < M→prB L m=true)
include hn hp
theorem Yr : ∀ m,m≤M → ∀ i,i≤2*m→iat (dlt L m) i=((Bh L i).length:Int):=by
 intro m;induction m with
 | zero =>
  intro _ i hi;have:i=0:=by omega
  subst this;rw[dlt,F7,Dj];rfl
 | succ m ih =>
  intro hm i hi;obtain ⟨p1,p2,p3,_,_⟩:=EB (hp m (by omega))
  have hl:=Uc L m;have hpp:=ih (by omega) (pp L m) p3
  have ea:(Bh L (2*m+1)).length=(Bh L (pp L m)).length+1:=by rw[Cs p1 (by omega),List.length_append];rfl
  have eb:(Bh L (2*m+2)).length=(Bh L (pp L m)).length+1:=by rw[Cs p2 (by omega),List.length_append];rfl
  rw[dlt,JL (by rw[List.length_set];omega),JL (by omega),if_pos rfl]
  by_cases h1:2*m+2=i
  ·rw[if_pos h1,←h1,eb,hpp];omega
  ·rw[if_neg h1,JL (by omega)]
   by_cases h2:2*m+1=i
   ·rw[if_pos h2,←h2,ea,hpp];omega
   ·rw[if_neg h2];exact ih (by omega) i (by omega)
theorem Ack {m:Nat}(hm:m < M):iat (dlt L (m+1)) (2*m+1)=((Bh L (2*m+1)).length:Int):=Yr hn hp (m+1) (by omega) _ (by omega)
theorem Ka {m:Nat}(hm:m < M)(i:Nat):iat (clt L (m+1)) i=if pp L m=i then iat (clt L m) i+2 else iat (clt L m) i:=by
 obtain ⟨p1,p2,p3,_,_⟩:=EB (hp m hm);rw[clt,JL (by rw[Gf];omega)]
 by_cases h:pp L m=i
 ·rw[if_pos h,if_pos h,h]
 ·rw[if_neg h,if_neg h]
theorem YB : ∀ m,m≤M → ∀ i,iat (clt L m) i % 2=0:=by
 intro m;induction m with
 | zero=>intro _ i;rw[clt,F7];rfl
 | succ m ih =>
  intro hm i;rw[Ka hn hp (by omega)]
  have:=ih (by omega) i
  split <;> omega
theorem YA : ∀ m,m≤M → ∀ k,k≤m → ∀ i,iat (clt L k) i≤iat (clt L m) i:=by
 intro m;induction m with
 | zero=>intro _ k hk i;exact (show k=0 by omega)▸Int.le_refl _
 | succ m ih =>
  intro hm k hk i;by_cases h:k=m+1
  ·rw[h];exact Int.le_refl _
  ·have:=ih (by omega) k (by omega) i
   rw[Ka hn hp (by omega)]
   split <;> omega
theorem Aaw (h : ∀ m,m < M→iat (clt L (m+1)) (pp L m)≤2) : ∀ m,m≤M → ∀ i,iat (clt L m) i≤2:=by
 intro m;induction m with
 | zero=>intro _ i;rw[clt,F7];omega
 | succ m ih =>
  intro hm i;by_cases hi:pp L m=i
  ·rw[←hi];exact h m (by omega)
  ·rw[Ka hn hp (by omega),if_neg hi];exact ih (by omega) i
end
def G5 (D:List De):Prop:=D.Pairwise fun a b => ¬ (a.1=b.1∧a.2.1=b.2.1)
theorem GZ {D:List De}{i:Nat}(h:i < D.length):dat D i=D[i]:=by unfold dat;rw[List.getD_eq_getElem?_getD,List.getElem?_eq_getElem h];rfl
theorem TP {D:List De}{k j:Nat}:inC D k j=0 ↔ ¬ ((dat D j).1=(dat D k).1∧(dat D j).2.1=(dat D k).2.1):=by
 unfold inC PW;by_cases h1:(dat D k).1=(dat D j).1
 ·by_cases h2:(dat D k).2.1=(dat D j).2.1
  ·simp[h1,h2]
  ·simp[h1,h2,Ne.symm h2]
 ·simp[h1,Ne.symm h1]
theorem UA {D:List De}:AT (miC D) D.length 0=0↔G5 D:=by
 unfold G5;rw[Bn,List.pairwise_iff_getElem];constructor
 ·intro h i j hi hj hij
  have h1:=h j (Nat.zero_le _) (by omega)
  unfold miC at h1;rw[Bn] at h1;have h2:=TP.1 (h1 i (Nat.zero_le _) (by omega))
  rw[GZ hi,GZ hj] at h2;exact h2
 ·intro h k _ hk
  unfold miC;rw[Bn];intro j _ hj;rw[TP,GZ (by omega),GZ (by omega)]
  exact h j k (by omega) (by omega) (by omega)
theorem DQ {D:List De}{x:De}:G5 (D++[x])↔G5 D ∧ ∀ d∈D,¬ (d.1=x.1∧d.2.1=x.2.1):=by
 unfold G5;rw[List.pairwise_append];constructor
 ·rintro ⟨h1,_,h3⟩
  exact ⟨h1,fun d hd=>h3 d hd x (by simp)⟩
 ·rintro ⟨h1,h2⟩
  refine ⟨h1,by simp,fun d hd y hy => ?_⟩
  simp at hy;subst hy;exact h2 d hd
theorem JX {L:List Nd}{i:Nat}{f n:Int}:MN L i f n=false ↔ ∀ d∈Bh L i,¬ (d.1=f∧d.2.1=n):=by
 unfold MN Bh CY;rw[List.any_eq_false];constructor
 ·intro h d hd
  rw[List.mem_reverse,List.mem_map] at hd;obtain ⟨x,hx,rfl⟩:=hd;have:=h x hx;simp at this;exact fun hh=>this hh.1 hh.2
 ·intro h x hx
  have:=h (dcn (tat L x)) (by rw[List.mem_reverse,List.mem_map];exact ⟨x,hx,rfl⟩)
  simp;exact fun h1 h2=>this ⟨h1,h2⟩
theorem L3 {L:List Nd}{M:Nat}(hn:L.length=2*M+1){i:Nat}(hi:i < L.length):ouC L i=0↔iat (clt L M) i≤2∧((tat L i).st=1↔iat (clt L M) i=2)∧(Bh L i).length≤32∧G5 (Bh L i):=by
 have hM2:L.length / 2=M:=by omega
 unfold ouC cpC;rw[hM2,←UA];by_cases h1:2 < iat (clt L M) i
 ·rw[if_pos h1,if_pos (by decide)]
  exact ⟨fun h=>by omega,fun h=>by omega⟩
 ·rw[if_neg h1]
  by_cases h2:decide ((tat L i).st=1)=decide (iat (clt L M) i=2)
  ·rw[if_pos h2,if_neg (by simp)]
   have h2':(tat L i).st=1↔iat (clt L M) i=2:=by simpa using h2
   by_cases h3:32 < (Bh L i).length
   ·rw[if_pos h3]
    exact ⟨fun h=>by omega,fun h=>by omega⟩
   ·rw[if_neg h3]
    exact ⟨fun h=>⟨by omega,h2',by omega,h⟩,fun h=>h.2.2.2⟩
  ·rw[if_neg h2,if_pos (by decide)]
   exact ⟨fun h=>by omega,fun h=>absurd (by simpa using h.2.1) h2⟩
section
variable {L:List Nd}{M:Nat}(hn:L.length=2*M+1)(hp : ∀ m,m < M→prB L m=true)
include hn hp
theorem N8 : (∀ i, i < L.length → G5 (Bh L i)) ↔ ∀ m, m < M → MN L (pp L m) (tat L (2 * m + 1)).fst (tat L (2 * m + 1)).nxt = false := by
 constructor
 ·intro h m hm
  obtain ⟨p1,p2,p3,_,_⟩:=EB (hp m hm);have:=h (2*m+1) (by omega)
  rw[Cs p1 (by omega),DQ] at this
  exact JX.2 this.2
 ·intro h i
  induction i using Nat.strongRecOn with
  | _ i ih =>
   intro hi;by_cases h0:i=0
   ·subst h0;rw[Dj];exact List.Pairwise.nil
   ·obtain ⟨m,hm⟩ : ∃ m,i=2*m+1∨i=2*m+2:=⟨(i - 1) / 2,by omega⟩
    have hmM:m < M:=by omega
    obtain ⟨p1,p2,p3,p4,p5⟩:=EB (hp m hmM);have hd:=JX.1 (h m hmM);rcases hm with rfl | rfl
    ·rw[Cs p1 (by omega),DQ]
     exact ⟨ih _ (by omega) (by omega),hd⟩
    ·rw[Cs p2 (by omega),DQ]
     refine ⟨ih _ (by omega) (by omega),fun d hd' => ?_⟩
     have:=hd d hd';show ¬ (d.1=(tat L (2*m+2)).fst∧d.2.1=(tat L (2*m+2)).nxt);rw[p4,p5];exact this
theorem Jn:(∀ j,j < L.length - 1→bdC L (j+1)=0) ↔ ∀ m,m < M→(tat L (pp L m)).q≤(tat L (2*m+1)).q∧(tat L (pp L m)).q≤(tat L (2*m+2)).q:=by
 have key : ∀ i p:Nat,(tat L i).par=(p:Int)→(bdC L i=0↔(tat L p).q≤(tat L i).q):=by
  intro i p h;unfold bdC;rw[show (tat L i).par.toNat=p by omega]
  by_cases hq:(tat L i).q < (tat L p).q
  ·rw[if_pos hq]
   exact ⟨fun h=>by omega,fun h=>by exfalso;grind⟩
  ·rw[if_neg hq]
   exact ⟨fun _=>by grind,fun _=>rfl⟩
 constructor
 ·intro h m hm
  obtain ⟨p1,p2,p3,_,_⟩:=EB (hp m hm);exact ⟨(key _ _ p1).1 (h (2*m) (by omega)),(key _ _ p2).1 (h (2*m+1) (by omega))⟩
 ·intro h j hj
  obtain ⟨m,hm⟩ : ∃ m,j=2*m∨j=2*m+1:=⟨j / 2,by omega⟩
  have hmM:m < M:=by omega
  obtain ⟨p1,p2,p3,_,_⟩:=EB (hp m hmM);rcases hm with rfl | rfl
  ·exact (key _ _ p1).2 (h m hmM).1
  ·exact (key _ _ p2).2 (h m hmM).2
theorem NC : ((∀ m, m < M → spB L m = true) ∧ ∀ i, i < L.length → chB L i = true) ↔ ((∀ i, i < L.length → ouC L i = 0) ∧ ∀ j, j < L.length - 1 → bdC L (j + 1) = 0) := by
 have hM2:L.length / 2=M:=by omega
 have sp : ∀ m,m < M→(spB L m=true↔((Bh L (2*m+1)).length:Int)≤32∧iat (clt L (m+1)) (pp L m)≤2∧MN L (pp L m) (tat L (2*m+1)).fst (tat L (2*m+1)).nxt=false∧(tat L (pp L m)).q≤(tat L (2*m+1)).q∧(tat L (pp L m)).q≤(tat L (2*m+2)).q):=by
  intro m hm;unfold spB;rw[Ack hn hp hm];simp only[Bool.and_eq_true,decide_eq_true_eq,Bool.not_eq_true'];exact ⟨fun ⟨⟨⟨⟨a,b⟩,c⟩,d⟩,e⟩=>⟨a,b,c,d,e⟩,fun ⟨a,b,c,d,e⟩=>⟨⟨⟨⟨a,b⟩,c⟩,d⟩,e⟩⟩
 have ch : ∀ i,(chB L i=true↔((tat L i).st=1↔0 < iat (clt L M) i)):=by
  intro i;unfold chB;rw[hM2];by_cases h1:(tat L i).st=1 <;> by_cases h2:0 < iat (clt L M) i <;> simp[h1,h2]
 have two : ∀ i,iat (clt L M) i≤2→(0 < iat (clt L M) i↔iat (clt L M) i=2):=by
  intro i h;have h1:=YB hn hp M (Nat.le_refl _) i;have h2:=(SS L M i).1;omega
 rw[Jn hn hp];constructor
 ·rintro ⟨h1,h2⟩
  have hs:=fun m hm=>(sp m hm).1 (h1 m hm)
  have c2:=Aaw hn hp (fun m hm=>(hs m hm).2.1) M (Nat.le_refl _)
  have tw:=(N8 hn hp).2 fun m hm=>(hs m hm).2.2.1
  refine ⟨fun i hi=>(L3 hn hi).2 ⟨c2 i,?_,?_,tw i hi⟩,fun m hm=>(hs m hm).2.2.2⟩
  ·rw[←two i (c2 i)];exact (ch i).1 (h2 i hi)
  ·by_cases h0:i=0
   ·subst h0;rw[Dj];exact Nat.zero_le _
   ·obtain ⟨m,hm⟩ : ∃ m,i=2*m+1∨i=2*m+2:=⟨(i - 1) / 2,by omega⟩
    have hmM:m < M:=by omega
    obtain ⟨p1,p2,p3,p4,p5⟩:=EB (hp m hmM);have:=(hs m hmM).1;rcases hm with rfl | rfl
    ·omega
    ·have ea:(Bh L (2*m+1)).length=(Bh L (pp L m)).length+1:=by rw[Cs p1 (by omega),List.length_append];rfl
     have eb:(Bh L (2*m+2)).length=(Bh L (pp L m)).length+1:=by rw[Cs p2 (by omega),List.length_append];rfl
     omega
 ·rintro ⟨h1,h2⟩
  have ho:=fun i hi=>(L3 hn (i:=i) hi).1 (h1 i hi)
  have tw:=(N8 hn hp).1 fun i hi=>(ho i hi).2.2.2
  refine ⟨fun m hm=>(sp m hm).2 ⟨?_,?_,tw m hm,h2 m hm⟩,fun i hi=>(ch i).2 ?_⟩
  ·have:=(ho (2*m+1) (by omega)).2.2.1
   omega
  ·obtain ⟨p1,p2,p3,p4,p5⟩:=EB (hp m hm)
   have:=(ho (pp L m) (by omega)).1
   have:=YA hn hp M (Nat.le_refl _) (m+1) (by omega) (pp L m)
   omega
  ·rw[two i (ho i hi).1];exact (ho i hi).2.1
end
theorem Tr {L:List Nd}:shB L=true↔(rpB L=true∧AT (fun j=>bdC L (j+1)) (L.length - 1) 0=0):=by
 unfold shB rpB;simp only[Bool.and_eq_true,List.all_eq_true,List.mem_range,decide_eq_true_eq,Bn];constructor
 ·rintro ⟨⟨h1,h2⟩,h3⟩
  have hr:=h1;unfold rtB at hr;simp only[Bool.and_eq_true,decide_eq_true_eq] at hr;have hn:L.length=2*(L.length / 2)+1:=by omega
  have:=(NC hn (fun m hm=>(h2 m hm).1)).1 ⟨fun m hm=>(h2 m hm).2,h3⟩
  exact ⟨⟨⟨h1,fun m hm=>(h2 m hm).1⟩,fun j _ hj=>this.1 j (by omega)⟩,fun j _ hj=>this.2 j (by omega)⟩
 ·rintro ⟨⟨⟨h1,h2⟩,h3⟩,h4⟩
  have hr:=h1;unfold rtB at hr;simp only[Bool.and_eq_true,decide_eq_true_eq] at hr;have hn:L.length=2*(L.length / 2)+1:=by omega
  have:=(NC hn h2).2 ⟨fun i hi=>h3 i (Nat.zero_le _) (by omega),fun j hj=>h4 j (Nat.zero_le _) (by omega)⟩
  exact ⟨⟨h1,fun m hm=>⟨h2 m hm,this.1 m hm⟩⟩,this.2⟩
theorem Lh {a b:Nat→Int} : ∀ {n i:Nat},(∀ j,i≤j→j < i+n→a j=b j)→AT a n i=AT b n i
 | 0,_,_=>rfl
 | n+1,i,h=>by
  unfold AT;rw[h i (Nat.le_refl _) (by omega),Lh fun j h1 h2=>h j (by omega) (by omega)]
theorem RR (L : List Nd) (f : Bool) (z : Int) : rvc L f z = tvc L f z := by
 unfold rvc tvc;by_cases h1:L.length < 1∨2000 < L.length
 ·rw[if_pos h1,if_pos h1]
 ·rw [if_neg h1, if_neg h1]
  by_cases h2:BS z=false∨(z≠0∧f=false)
  ·rw[if_pos h2,if_pos (h2.imp id And.symm)]
  ·rw [if_neg h2, if_neg (fun h => h2 (h.imp id And.symm))]
   by_cases h3:AT (CE L) L.length 0≠0
   ·rw[if_pos h3,if_pos h3]
   ·rw[if_neg h3,if_neg h3]
    have h3:AT (CE L) L.length 0=0:=Decidable.not_not.1 h3;have hst:AT (rsC L f z) L.length 0=AT (UL L f z) L.length 0:=Lh fun j _ hj=>by
     have ho:=Bn.1 h3 j (Nat.zero_le _) hj;have hok:okc (tat L j).q=true:=by
      unfold CE at ho;split at ho
      ·omega
      ·cases hk:okc (tat L j).q with
       | true=>rfl
       | false=>rw[hk] at ho;exact absurd ho (by decide)
     unfold rsC UL PG FL;rw[hok,Bool.true_and]
    have hs:=Tr (L:=L);cases hr:rpB L with
    | false =>
     rw[if_pos rfl];have:shB L=false:=by
      cases hsb:shB L with
      | false=>rfl
      | true=>have:=(hs.1 hsb).1;rw[hr] at this;cases this
     rw[this,if_pos rfl]
    | true =>
     rw[if_neg (by decide)]
     by_cases hb:AT (fun j=>bdC L (j+1)) (L.length - 1) 0=0
     ·rw[if_neg (fun h=>h hb),hs.2 ⟨hr,hb⟩,if_neg (by decide),hst]
     ·have:shB L=false:=by
       cases hsb:shB L with
       | false=>rfl
       | true=>exact absurd (hs.1 hsb).2 hb
      rw[if_pos hb,this,if_pos rfl];obtain ⟨j,_,_,_,hj⟩:=MD hb;rw[←hj];exact YP (by rw[hj];exact hb)
section
variable {I:WInv}{c c':Bool}{q:Rat}
def Uf (c:Bool)(L:List Nd)(f:Bool)(z:Int):Nat→Go.Proofs.YtdgbealknnmkoaaGreatDoor.St
 | 0=>⟨[(1,.p 3 0),(2,.p 4 0),(3,.p 10 0),(4,.i ((0:Nat):Int))],[(10,some ⟨46,none,[.z,.o f,.i z]⟩),(3,some ⟨46,none,[.b (.it (slI 9 ((L).map (Al c)))),.o f,.i z]⟩),(4,some ⟨46,none,[.z,.o false,.i 0]⟩)],50⟩
 | i+1=>⟨[(1,.p 3 0),(2,.p 4 0),(3,.p 10 0),(4,.i ((i+1:Nat):Int))],[(40,some ⟨103,some (9,i+1),Ad ((Cg L id (i+1)).map (Al true))⟩),(10,some ⟨46,none,[.sl 40,.o f,.i z]⟩),(3,some ⟨46,none,[.b (.it (slI 9 ((L).map (Al c)))),.o f,.i z]⟩),(4,some ⟨46,none,[.z,.o false,.i 0]⟩)],50⟩
theorem SR (L:List Nd)(f:Bool)(z:Int)(i:Nat)(hi:i < L.length)(hl:L.length≤2002):Rnd Tryz.prog I 34 (Bj Tryz.prog 71 0) (Uf c L f z i) .normal (Uf c L f z (i+1)):=by
 cases i with
 | zero =>
  obtain ⟨i,h0⟩ : ∃ i,i=0:=⟨0,rfl⟩;have e1:Cg L id 0=[]:=rfl;show Rnd Tryz.prog I _ _ ⟨[(1,.p 3 0),(2,.p 4 0),(3,.p 10 0),(4,.i ((0:Nat):Int))],[(10,some ⟨46,none,[.z,.o f,.i z]⟩),(3,some ⟨46,none,[.b (.it (slI 9 ((L).map (Al c)))),.o f,.i z]⟩),(4,some ⟨46,none,[.z,.o false,.i 0]⟩)],50⟩ _ ⟨[(1,.p 3 0),(2,.p 4 0),(3,.p 10 0),(4,.i ((0+1:Nat):Int))],[(40,some ⟨103,some (9,1),Ad ((Cg L id (0+1)).map (Al true))⟩),(10,some ⟨46,none,[.sl 40,.o f,.i z]⟩),(3,some ⟨46,none,[.b (.it (slI 9 ((L).map (Al c)))),.o f,.i z]⟩),(4,some ⟨46,none,[.z,.o false,.i 0]⟩)],50⟩;exact Rnd.nam [(40,71)] (show Rnd _ _ _ _ _ _ ⟨[(1,.p 3 0),(2,.p 4 0),(3,.p 10 0),(4,.i ((0+1:Nat):Int))],[(71,some ⟨103,some (9,1),[.i ((tat L 0).par),.i ((tat L 0).fst),.i ((tat L 0).nxt),.o ((tat L 0).tog),.b (.it (fF true 12 ((tat L 0).q))),.i ((tat L 0).st)]⟩),(10,some ⟨46,none,[.sl 71,.o f,.i z]⟩),(3,some ⟨46,none,[.b (.it (slI 9 ((L).map (Al c)))),.o f,.i z]⟩),(4,some ⟨46,none,[.z,.o false,.i 0]⟩)],77⟩ from rr [pk (AK 44 103 3 9 ((L).map (Al c)) ((L).length:Int)),pk (As 3 0 ((L).length:Int)),pk (Ah 44 103 9 ((L).map (Al c)) 0 0 ((Al c) (tat L 0)) (Bg hi)),po (Bx (I:=I) (c:=c) (k:=12) (p:=(tat L 0).q) (by omega)),⟨.ap 0 1 104,⟨by omega,by simp only[maxLen];omega⟩⟩,pa]) (t:=⟨[(1,.p 3 0),(2,.p 4 0),(3,.p 10 0),(4,.i ((0+1:Nat):Int))],[(40,some ⟨103,some (9,1),Ad ((Cg L id (0+1)).map (Al true))⟩),(10,some ⟨46,none,[.sl 40,.o f,.i z]⟩),(3,some ⟨46,none,[.b (.it (slI 9 ((L).map (Al c)))),.o f,.i z]⟩),(4,some ⟨46,none,[.z,.o false,.i 0]⟩)],50⟩) ⟨rfl,TVle.refl,rfl,TVle.refl,rfl,TVle.refl,rfl,TVle.refl,trivial⟩ ⟨rfl,rfl,rfl,ILe.eq (show [.i ((tat L 0).par),.i ((tat L 0).fst),.i ((tat L 0).nxt),.o ((tat L 0).tog),.b (.it (fF true 12 ((tat L 0).q))),.i ((tat L 0).st)]=Ad ((Cg L id (0+1)).map (Al true)) from rfl),rfl,rfl,rfl,ILe.refl,rfl,rfl,rfl,ILe.refl,rfl,rfl,rfl,ILe.refl,trivial⟩
 | succ i =>
  show Rnd Tryz.prog I _ _ ⟨[(1,.p 3 0),(2,.p 4 0),(3,.p 10 0),(4,.i ((i+1:Nat):Int))],[(40,some ⟨103,some (9,i+1),Ad ((Cg L id (i+1)).map (Al true))⟩),(10,some ⟨46,none,[.sl 40,.o f,.i z]⟩),(3,some ⟨46,none,[.b (.it (slI 9 ((L).map (Al c)))),.o f,.i z]⟩),(4,some ⟨46,none,[.z,.o false,.i 0]⟩)],50⟩ _ ⟨[(1,.p 3 0),(2,.p 4 0),(3,.p 10 0),(4,.i ((i+1+1:Nat):Int))],[(40,some ⟨103,some (9,i+1+1),Ad ((Cg L id (i+1+1)).map (Al true))⟩),(10,some ⟨46,none,[.sl 40,.o f,.i z]⟩),(3,some ⟨46,none,[.b (.it (slI 9 ((L).map (Al c)))),.o f,.i z]⟩),(4,some ⟨46,none,[.z,.o false,.i 0]⟩)],50⟩;exact Rnd.nam [(40,71)] (show Rnd _ _ _ _ _ _ ⟨[(1,.p 3 0),(2,.p 4 0),(3,.p 10 0),(4,.i ((i+1+1:Nat):Int))],[(71,some ⟨103,some (9,i+1+1),(Ad ((Cg L id (i+1)).map (Al true)))++([.i ((tat L (i+1)).par),.i ((tat L (i+1)).fst),.i ((tat L (i+1)).nxt),.o ((tat L (i+1)).tog),.b (.it (fF true 12 ((tat L (i+1)).q))),.i ((tat L (i+1)).st)])⟩),(10,some ⟨46,none,[.sl 71,.o f,.i z]⟩),(3,some ⟨46,none,[.b (.it (slI 9 ((L).map (Al c)))),.o f,.i z]⟩),(4,some ⟨46,none,[.z,.o false,.i 0]⟩)],77⟩ from rr [pk (AK 44 103 3 9 ((L).map (Al c)) ((L).length:Int)),pk (As 3 ((i+1:Nat):Int) ((L).length:Int)),pk (Ah 44 103 9 ((L).map (Al c)) (i+1) ((i+1:Nat):Int) ((Al c) (tat L (i+1))) (Bg hi)),po (Bx (I:=I) (c:=c) (k:=12) (p:=(tat L (i+1)).q) (by omega)),⟨.ap (i+1) 1 104,⟨by omega,by simp only[maxLen];omega⟩⟩,pk (Az 3 ((i+1:Nat):Int) 1 ⟨by omega,by omega⟩)]) (t:=⟨[(1,.p 3 0),(2,.p 4 0),(3,.p 10 0),(4,.i ((i+1+1:Nat):Int))],[(40,some ⟨103,some (9,i+1+1),Ad ((Cg L id (i+1+1)).map (Al true))⟩),(10,some ⟨46,none,[.sl 40,.o f,.i z]⟩),(3,some ⟨46,none,[.b (.it (slI 9 ((L).map (Al c)))),.o f,.i z]⟩),(4,some ⟨46,none,[.z,.o false,.i 0]⟩)],50⟩) ⟨rfl,TVle.refl,rfl,TVle.refl,rfl,TVle.refl,rfl,TVle.refl,trivial⟩ ⟨rfl,rfl,rfl,ILe.eq (show (Ad ((Cg L id (i+1)).map (Al true)))++([.i ((tat L (i+1)).par),.i ((tat L (i+1)).fst),.i ((tat L (i+1)).nxt),.o ((tat L (i+1)).tog),.b (.it (fF true 12 ((tat L (i+1)).q))),.i ((tat L (i+1)).st)])=Ad ((Cg L id (i+1+1)).map (Al true)) from (by rw[DC L id (i+1),List.map_append,C2];rfl)),rfl,rfl,rfl,ILe.refl,rfl,rfl,rfl,ILe.refl,rfl,rfl,rfl,ILe.refl,trivial⟩
theorem R2 (L:List Nd)(f:Bool)(z:Int)(h0:0 < L.length)(hl:L.length≤2002):SpM Tryz.prog I 71 [] [trT c L f z] [(2,some (nbx true L L.length))] (.cv (.ag [.sl 2,.o f,.i z])):=by
 have lo:LoopTr Tryz.prog I 34 (Bj Tryz.prog 71 0) (Uf c L f z 0) (.exit 0) ⟨[(2,.p 4 0),(3,.p 10 0)],[(40,some ⟨103,some (9,L.length),Ad ((L).map (Al true))⟩),(10,some ⟨46,none,[.sl 40,.o f,.i z]⟩),(4,some ⟨46,none,[.z,.o false,.i 0]⟩)],50⟩:=Ck (by simp) (Uf c L f z) L.length (fun i hi=>SR L f z i hi hl) (by
  obtain ⟨m,hm⟩ : ∃ m,L.length=m+1:=⟨L.length - 1,by omega⟩
  have e:Cg L id (m+1)=L:=by rw[←hm];exact (EG L id).trans (List.map_id L)
  rw[hm];show Rnd Tryz.prog I _ _ ⟨[(1,.p 3 0),(2,.p 4 0),(3,.p 10 0),(4,.i ((m+1:Nat):Int))],[(40,some ⟨103,some (9,m+1),Ad ((Cg L id (m+1)).map (Al true))⟩),(10,some ⟨46,none,[.sl 40,.o f,.i z]⟩),(3,some ⟨46,none,[.b (.it (slI 9 ((L).map (Al c)))),.o f,.i z]⟩),(4,some ⟨46,none,[.z,.o false,.i 0]⟩)],50⟩ _ _;rw[e];exact Rnd.nam [] (show Rnd _ _ _ _ _ _ ⟨[(2,.p 4 0),(3,.p 10 0)],[(40,some ⟨103,some (9,m+1),Ad ((L).map (Al true))⟩),(10,some ⟨46,none,[.sl 40,.o f,.i z]⟩),(4,some ⟨46,none,[.z,.o false,.i 0]⟩)],55⟩ from rr [pk (AK 44 103 3 9 ((L).map (Al c)) ((L).length:Int)),pk (Aj 3 ((m+1:Nat):Int) ((L).length:Int))]) (t:=⟨[(2,.p 4 0),(3,.p 10 0)],[(40,some ⟨103,some (9,m+1),Ad ((L).map (Al true))⟩),(10,some ⟨46,none,[.sl 40,.o f,.i z]⟩),(4,some ⟨46,none,[.z,.o false,.i 0]⟩)],50⟩) ⟨rfl,TVle.refl,rfl,TVle.refl,trivial⟩ ⟨rfl,rfl,rfl,ILe.refl,rfl,rfl,rfl,ILe.refl,rfl,rfl,rfl,ILe.refl,trivial⟩)
 generalize L.length=n at *;exact sm 34 [pl (lo),pm ((show Leads I _ ⟨[(2,.p 4 0),(3,.p 10 0)],[(40,some ⟨103,some (9,n),Ad ((L).map (Al true))⟩),(10,some ⟨46,none,[.sl 40,.o f,.i z]⟩),(4,some ⟨46,none,[.z,.o false,.i 0]⟩)],50⟩ ⟨[(2,.p 4 0),(3,.p 10 0)],[(2,some ⟨103,some (9,n),Ad ((L).map (Al true))⟩),(10,some ⟨46,none,[.sl 2,.o f,.i z]⟩),(4,some ⟨46,none,[.z,.o false,.i 0]⟩)],50⟩ from AN [(2,40)] ⟨rfl,TVle.refl,rfl,TVle.refl,trivial⟩ ⟨rfl,rfl,rfl,ILe.refl,rfl,rfl,rfl,ILe.refl,rfl,rfl,rfl,ILe.refl,trivial⟩))]
theorem Z0 (q:Rat):Sp Tryz.prog I 28 [fc c 12 q] (.cv (trT true (Hn q) false 0)):=by
 have h:SpM Tryz.prog I 28 [] [fc c 12 q] [(2,some (nbx true (Hn q) 1))] (.cv (.ag [.sl 2,.o false,.i 0])):=sm 8 [po (Bx (I:=I) (c:=c) (k:=12) (p:=q) (by omega)),pm ((show Leads I _ ⟨[(2,.p 4 0)],[(8,some ⟨103,some (9,1),[.i (-1),.i 0,.i 0,.o false,.b (.it (fF true 12 q)),.i 0]⟩),(4,some ⟨46,none,[.sl 8,.o false,.i 0]⟩)],11⟩ ⟨[(2,.p 4 0)],[(2,some ⟨103,some (9,1),[.i (-1),.i 0,.i 0,.o false,.b (.it (fF true 12 q)),.i 0]⟩),(4,some ⟨46,none,[.sl 2,.o false,.i 0]⟩)],11⟩ from AN [(2,8)] ⟨rfl,TVle.refl,trivial⟩ ⟨rfl,rfl,rfl,ILe.refl,rfl,rfl,rfl,ILe.refl,trivial⟩))]
 exact h.freeze rfl OL rfl
end
section
variable {P:Program}{I:WInv}{c c':Bool}
theorem SpM.sp {f:FuncId}{args:List CT}{res:TV}(h:SpM P I f [] args [] res)(hok:res.noPtr=true):Sp P I f args res:=by
 intro N w vs hI hlow hargs;refine (h N (fun b=>b < w.heap.size) w G0 vs hI hlow (fun b hb=>hb) (fun k e he=>by cases he) (fun k j e e' b he=>by cases he) (fun k _=>rfl) hargs).mono ?_
 rintro en w' ⟨v,N',g',rfl,q1,q2,q3,q4,q5,q6,q7⟩;exact ⟨v,rfl,TV.noPtr_sem hok (TV.step q7 (WStep.refl _ _) (fun b hb=>(q2 b hb).imp id fun h=>⟨Nat.not_lt.1 h.1,h.2⟩) (GExt.refl _)),LF q3⟩
theorem ZE (L:List Nd)(f:Bool)(z:Int)(i:Nat)(hi:i < L.length)(r:Int)(hr:(if (tat L i).st=0 then 0 else 16)=r):Sp Tryz.prog I 73 [trT c L f z,ci (i:Int)] (li r):=by
 subst hr;by_cases h:(tat L i).st=0
 ·rw[if_pos h]
  exact sr 12 [pk (Ah 44 103 9 ((L).map (Al c)) i (i:Int) ((Al c) (tat L i)) (Bg hi)),pk (Ow 3 ((tat L i).st) 0 false (decide_eq_true h))]
 ·rw[if_neg h]
  exact sr 12 [pk (Ah 44 103 9 ((L).map (Al c)) i (i:Int) ((Al c) (tat L i)) (Bg hi)),pk (Ow 3 ((tat L i).st) 0 true (decide_eq_false h))]
theorem DU {L:List Nd}(f:Bool)(z:Int)(n:Nat)(hn:L.length=n)(i:Nat)(hi:i < L.length)(r:Int)(hr:(if (tat L i).st=0 then 0 else 16)=r):SpM Tryz.prog I 73 [(0,some (nbx c L n))] [.ag [.sl 0,.o f,.i z],ci (i:Int)] [(0,some (nbx c L n))] (li r) :=
 YL (args:=[.ag [.sl 0,.o f,.i z],ci (i:Int)]) (ZE L f z i hi r hr) (by rw[List.length_map];exact hn.symm) OL rfl QO rfl
theorem GI {L:List Nd}(f:Bool)(z:Int)(n:Nat)(hn:L.length=n)(q:Rat)(r:Bool)(hr:PG f z q=r):SpM Tryz.prog I 77 [(0,some (nbx c L n))] [.ag [.sl 0,.o f,.i z],fc c 12 q] [(0,some (nbx c L n))] (lb r) :=
 YL (args:=[.ag [.sl 0,.o f,.i z],fc c 12 q]) (by rw[←hr];exact Ou L f z q) (by rw[List.length_map];exact hn.symm) OL rfl QO rfl
def QN (c:Bool)(L:List Nd)(n:Nat)(f:Bool)(z:Int)(i:Nat):Go.Proofs.YtdgbealknnmkoaaGreatDoor.St:=⟨[(1,.p 3 0),(5,.s 40),(6,.s 41),(7,.s 42),(8,.i (i:Int))],[(40,some ⟨3,some (1,i),Ad ((Cg L (·.par) i).map Ag)⟩),(41,some ⟨101,some (3,i),Ad ((Cg L dcn i).map AG)⟩),(42,some ⟨4,some (1,i),Ad ((Cg L (fun x=>decide (x.st=1)) i).map Bo)⟩),(3,some ⟨46,none,[.sl 0,.o f,.i z]⟩),(0,some ⟨103,some (9,n),Ad ((L).map (Al c))⟩)],50⟩
def YS (k:Nat):Bxs→Bool
 | []=>true
 | (j,some e)::r => !Nat.beq j k&&(e.sl.isSome||e.its.all (It.av k))&&YS k r
 | (_,none)::r=>YS k r
theorem SZ {k:Nat} : ∀ {B:Bxs},YS k B=true→NpB B→avB k B=true
 | [],_,_=>rfl
 | (j,none)::r,h,hn=>SZ (B:=r) h hn
 | (j,some e)::r,h,hn=>by
  simp only[YS,avB,Bool.and_eq_true] at h ⊢;refine ⟨⟨h.1.1,?_⟩,SZ h.2 hn.2⟩;rw[Bool.or_eq_true] at h;refine h.1.2.elim (fun hs => ?_) id
  have:=hn.1 hs;rw[List.all_eq_true] at this ⊢;intro x hx;have:=this x hx;cases x with
  | b _=>rfl
  | fp _=>rfl
  | ptr _ _=>cases this
  | sl _=>cases this
  | clo _ _=>cases this
theorem FT {nt t k nx:Nat}{E:Env}{B:Bxs}(T s:Nat)(h:look E t=some (BF (.slice none 0 0)))(hnp:NpB B)(h1:(avE k E&&YS k B&&Nat.blt k nx&&(Nat.beq k 2||Nat.ble 4 k))=true)(hB:AB B nx=none):Leads I nt ⟨E,B,nx⟩ ⟨(t,.s k)::E,(k,some ⟨T,some (s,0),[]⟩)::B,nx+1⟩:=by
 refine EC T s h ?_ hB;simp only[Bool.and_eq_true] at h1 ⊢;exact ⟨⟨⟨h1.1.1.1,SZ h1.1.1.2 hnp⟩,h1.1.2⟩,h1.2⟩
theorem Sm (L:List Nd)(n:Nat)(f:Bool)(z:Int):Leads I 47 ⟨[(1,.p 3 0),(5,.cv (.one (.z))),(6,.cv (.one (.z))),(7,.cv (.one (.z))),(8,.i 0)],[(3,some ⟨46,none,[.sl 0,.o f,.i z]⟩),(0,some ⟨103,some (9,n),Ad ((L).map (Al c))⟩)],47⟩ (QN c L n f z 0) :=
 (FT (t:=5) (k:=40) 3 1 rfl (by repeat' first | exact trivial | exact fun h=>absurd h Bool.false_ne_true | exact fun _=>Ar _ | exact fun _=>rfl | exact fun _=>BM (Ar _) rfl | refine ⟨?_,?_⟩) rfl rfl).trans ((FT (t:=6) (k:=41) 101 3 rfl (by repeat' first | exact trivial | exact fun h=>absurd h Bool.false_ne_true | exact fun _=>Ar _ | exact fun _=>rfl | exact fun _=>BM (Ar _) rfl | refine ⟨?_,?_⟩) rfl rfl).trans ((FT (t:=7) (k:=42) 4 1 rfl (by repeat' first | exact trivial | exact fun h=>absurd h Bool.false_ne_true | exact fun _=>Ar _ | exact fun _=>rfl | exact fun _=>BM (Ar _) rfl | refine ⟨?_,?_⟩) rfl rfl).trans (FP ⟨rfl,rfl,rfl,rfl,rfl,trivial⟩ ⟨rfl,rfl,rfl,rfl,rfl,trivial⟩)))
theorem OW (L:List Nd)(n:Nat)(hn:L.length=n)(f:Bool)(z:Int)(i:Nat)(hi:i < L.length)(hl:n≤2002):Rnd Tryz.prog I 47 (Bj Tryz.prog 75 0) (QN c L n f z i) .normal (QN c L n f z (i+1)):=by
 exact Rnd.nam [(40,63),(41,72),(42,82)] (show Rnd _ _ _ _ _ _ ⟨[(1,.p 3 0),(5,.s 63),(6,.s 72),(7,.s 82),(8,.i ((i+1:Nat):Int))],[(63,some ⟨3,some (1,i+1),(Ad ((Cg L (·.par) i).map Ag))++([.i ((tat L i).par)])⟩),(72,some ⟨101,some (3,i+1),(Ad ((Cg L dcn i).map AG))++([.i ((tat L i).fst),.i ((tat L i).nxt),.o ((tat L i).tog)])⟩),(82,some ⟨4,some (1,i+1),(Ad ((Cg L (fun x=>decide (x.st=1)) i).map Bo))++([.o (decide (((tat L i).st)=1))])⟩),(3,some ⟨46,none,[.sl 0,.o f,.i z]⟩),(0,some ⟨103,some (9,n),Ad ((L).map (Al c))⟩)],89⟩ from rr [pk (As 3 (i:Int) (n:Nat)),⟨.ix (i:Int) i n,⟨by omega,by omega⟩⟩,⟨.part (Ad ((L).map (Al c))) (i*9+0) 1 [.i ((tat L i).par)],(Ey (c:=c) (fo:=0) (n:=1) hi rfl)⟩,⟨.ap i 1 8,⟨by omega,by simp[maxLen];omega⟩⟩,⟨.ix (i:Int) i n,⟨by omega,by omega⟩⟩,⟨.part (Ad ((L).map (Al c))) (i*9+1) 3 [.i ((tat L i).fst),.i ((tat L i).nxt),.o ((tat L i).tog)],(Ey (c:=c) (fo:=1) (n:=3) hi rfl)⟩,⟨.ap i 1 24,⟨by omega,by simp[maxLen];omega⟩⟩,⟨.ix (i:Int) i n,⟨by omega,by omega⟩⟩,⟨.part (Ad ((L).map (Al c))) (i*9+8) 1 [.i ((tat L i).st)],(Ey (c:=c) (fo:=8) (n:=1) hi rfl)⟩,pk (Ba 3 ((tat L i).st) 1 (decide (((tat L i).st)=1)) rfl),⟨.ap i 1 1,⟨by omega,by simp[maxLen];omega⟩⟩,pk (Az 3 (i:Int) 1 ⟨by omega,by omega⟩)]) (t:=⟨[(1,.p 3 0),(5,.s 40),(6,.s 41),(7,.s 42),(8,.i ((i+1:Nat):Int))],[(40,some ⟨3,some (1,i+1),Ad ((Cg L (·.par) (i+1)).map Ag)⟩),(41,some ⟨101,some (3,i+1),Ad ((Cg L dcn (i+1)).map AG)⟩),(42,some ⟨4,some (1,i+1),Ad ((Cg L (fun x=>decide (x.st=1)) (i+1)).map Bo)⟩),(3,some ⟨46,none,[.sl 0,.o f,.i z]⟩),(0,some ⟨103,some (9,n),Ad ((L).map (Al c))⟩)],50⟩) ⟨rfl,TVle.refl,rfl,TVle.refl,rfl,TVle.refl,rfl,TVle.refl,rfl,TVle.refl,trivial⟩ ⟨rfl,rfl,rfl,ILe.eq (show (Ad ((Cg L (·.par) i).map Ag))++([.i ((tat L i).par)])=Ad ((Cg L (·.par) (i+1)).map Ag) from (by rw[DC,List.map_append,C2];rfl)),rfl,rfl,rfl,ILe.eq (show (Ad ((Cg L dcn i).map AG))++([.i ((tat L i).fst),.i ((tat L i).nxt),.o ((tat L i).tog)])=Ad ((Cg L dcn (i+1)).map AG) from (by rw[DC,List.map_append,C2];rfl)),rfl,rfl,rfl,ILe.eq (show (Ad ((Cg L (fun x=>decide (x.st=1)) i).map Bo))++([.o (decide (((tat L i).st)=1))])=Ad ((Cg L (fun x=>decide (x.st=1)) (i+1)).map Bo) from (by rw[DC,List.map_append,C2];rfl)),rfl,rfl,rfl,ILe.refl,rfl,rfl,rfl,ILe.refl,trivial⟩
theorem Q9 (L:List Nd)(f:Bool)(z:Int)(n:Nat)(hn:L.length=n)(hl:n≤2002):LoopTr Tryz.prog I 47 (Bj Tryz.prog 75 0) ⟨[(1,.p 3 0),(5,.cv (.one (.z))),(6,.cv (.one (.z))),(7,.cv (.one (.z))),(8,.i 0)],[(3,some ⟨46,none,[.sl 0,.o f,.i z]⟩),(0,some ⟨103,some (9,n),Ad ((L).map (Al c))⟩)],47⟩ (.exit 0) ⟨[(5,.s 40),(6,.s 41),(7,.s 42)],[(40,some ⟨3,some (1,n),Ad ((Au L).map Ag)⟩),(41,some ⟨101,some (3,n),Ad ((AD L).map AG)⟩),(42,some ⟨4,some (1,n),Ad ((BY L).map Bo)⟩),(0,some ⟨103,some (9,n),Ad ((L).map (Al c))⟩)],50⟩:=by
 refine LoopTr.pre (Sm L n f z) (Ck (by simp) (fun i=>QN c L n f z i) n (fun i hi=>OW L n hn f z i (by omega) (by omega)) ?_)
 unfold QN;have e1:=EG L (·.par);have e2:=EG L dcn;have e3:=EG L (fun x=>decide (x.st=1))
 rw[hn] at e1 e2 e3;rw[e1,e2,e3];exact Rnd.nam [] (show Rnd _ _ _ _ _ _ ⟨[(5,.s 40),(6,.s 41),(7,.s 42)],[(40,some ⟨3,some (1,n),Ad ((Au L).map Ag)⟩),(41,some ⟨101,some (3,n),Ad ((AD L).map AG)⟩),(42,some ⟨4,some (1,n),Ad ((BY L).map Bo)⟩),(0,some ⟨103,some (9,n),Ad ((L).map (Al c))⟩)],55⟩ from rr [pk (Aj 3 (n:Int) (n:Nat))]) (t:=⟨[(5,.s 40),(6,.s 41),(7,.s 42)],[(40,some ⟨3,some (1,n),Ad ((Au L).map Ag)⟩),(41,some ⟨101,some (3,n),Ad ((AD L).map AG)⟩),(42,some ⟨4,some (1,n),Ad ((BY L).map Bo)⟩),(0,some ⟨103,some (9,n),Ad ((L).map (Al c))⟩)],50⟩) ⟨rfl,TVle.refl,rfl,TVle.refl,rfl,TVle.refl,trivial⟩ ⟨rfl,rfl,rfl,ILe.refl,rfl,rfl,rfl,ILe.refl,rfl,rfl,rfl,ILe.refl,rfl,rfl,rfl,ILe.refl,trivial⟩
theorem Mw (L:List Nd)(f:Bool)(z:Int)(n:Nat)(hn:L.length=n)(hl:n≤2002):SpM Tryz.prog I 75 [(0,some (nbx c L n))] [.ag [.sl 0,.o f,.i z]] [(0,some (nbx c L n))] (.tu [Q7 L,Ry L,Abu L]):=by
 have lo:=Q9 (I:=I) (c:=c) L f z n hn hl;exact sm 47 [pl (lo),pm (AH (I:=I) (t:=5) (k:=40) (E:=[(6,.s 41),(7,.s 42)]) (B:=[(41,some ⟨101,some (3,n),Ad ((AD L).map AG)⟩),(42,some ⟨4,some (1,n),Ad ((BY L).map Bo)⟩),(0,some ⟨103,some (9,n),Ad ((L).map (Al c))⟩)]) (nx:=50) (T:=3) (sz:=1) (n:=n) ((Au L).map Ag) rfl (by rw[List.length_map,Db];exact hn.symm) L2 rfl),pm (AH (I:=I) (t:=6) (k:=41) (E:=[(5,.t (slI 1 ((Au L).map (Ag)))),(7,.s 42)]) (B:=[(42,some ⟨4,some (1,n),Ad ((BY L).map Bo)⟩),(0,some ⟨103,some (9,n),Ad ((L).map (Al c))⟩)]) (nx:=50) (T:=101) (sz:=3) (n:=n) ((AD L).map AG) rfl (by rw[List.length_map,EL];exact hn.symm) RW rfl),pm (AH (I:=I) (t:=7) (k:=42) (E:=[(5,.t (slI 1 ((Au L).map (Ag)))),(6,.t (slI 3 ((AD L).map (AG))))]) (B:=[(0,some ⟨103,some (9,n),Ad ((L).map (Al c))⟩)]) (nx:=50) (T:=4) (sz:=1) (n:=n) ((BY L).map Bo) rfl (by rw[List.length_map,Gu];exact hn.symm) Ty rfl)]
def cfC (D:List De)(x:Ch)(k:Nat):Int:=if (dat D k).1=x.fst∧(dat D k).2.1=x.nxt then 20 else 0
theorem Ui {L:List Nd}{i:Nat}{x:Ch}:AT (cfC (Bh L i) x) (Bh L i).length 0=0↔MN L i x.fst x.nxt=false:=by
 rw[JX,Bn];constructor
 ·intro h d hd
  obtain ⟨k,hk,he⟩:=List.mem_iff_getElem.1 hd;have:=h k (Nat.zero_le _) (by omega)
  unfold cfC at this;rw[GZ hk,he] at this;intro hh;rw[if_pos hh] at this;omega
 ·intro h k _ hk
  have hk':k < (Bh L i).length:=by omega
  have:=h (Bh L i)[k] (List.getElem_mem hk');unfold cfC;rw[GZ hk',if_neg this]
def Acv (M:List Nd)(n:Nat)(f:Bool)(z:Int)(c':Bool)(x:Ch)(D:List De)(k:Int):Go.Proofs.YtdgbealknnmkoaaGreatDoor.St:=⟨[(3,.p 4 0),(4,.p 5 0),(7,.p 14 0),(16,.t (slI 3 ((D).map (AG)))),(17,.i k)],[(13,some ⟨103,some (9,n),Ad ((M).map (Al true))⟩),(4,some ⟨28,none,[.i x.kind,.i x.node,.b (.it (fF c' 12 x.q)),.i x.fst,.i x.nxt,.i x.cost]⟩),(5,some ⟨46,none,[.z,.o false,.i 0]⟩),(14,some ⟨46,none,[.sl 13,.o f,.i z]⟩)],150⟩
theorem Uh (M:List Nd)(n:Nat)(f:Bool)(z:Int)(x:Ch)(D:List De)(hl:D.length≤100000) :
  (AT (cfC D x) D.length 0=0→LoopTr Tryz.prog I 250 (Bj Tryz.prog 29 0) (Acv M n f z c' x D ((0:Nat):Int)) (.exit 1) ⟨[(3,.p 4 0),(4,.p 5 0),(7,.p 14 0)],[(13,some ⟨103,some (9,n),Ad ((M).map (Al true))⟩),(4,some ⟨28,none,[.i x.kind,.i x.node,.b (.it (fF c' 12 x.q)),.i x.fst,.i x.nxt,.i x.cost]⟩),(5,some ⟨46,none,[.z,.o false,.i 0]⟩),(14,some ⟨46,none,[.sl 13,.o f,.i z]⟩)],150⟩)∧(AT (cfC D x) D.length 0≠0→LoopTr Tryz.prog I 250 (Bj Tryz.prog 29 0) (Acv M n f z c' x D ((0:Nat):Int)) .ret ⟨[(4,.p 5 0),(5,.i 20)],[(5,some ⟨46,none,[.z,.o false,.i 0]⟩)],150⟩):=by
 refine CS (cfC D x) D.length (fun k=>Acv M n f z c' x D (k:Int)) (fun _=>⟨[(4,.p 5 0),(5,.i 20)],[(5,some ⟨46,none,[.z,.o false,.i 0]⟩)],150⟩) (fun k hk hc => ?_) ?_ (fun k hk hc => ?_)
 ·unfold cfC at hc
  by_cases h1:(dat D k).1=x.fst
  ·by_cases h2:(dat D k).2.1=x.nxt
   ·rw[if_pos ⟨h1,h2⟩] at hc;omega
   ·exact Rnd.nam [] (show Rnd _ _ _ _ _ _ ⟨[(3,.p 4 0),(4,.p 5 0),(7,.p 14 0),(16,.t (slI 3 ((D).map (AG)))),(17,.i ((k+1:Nat):Int))],[(13,some ⟨103,some (9,n),Ad ((M).map (Al true))⟩),(4,some ⟨28,none,[.i x.kind,.i x.node,.b (.it (fF c' 12 x.q)),.i x.fst,.i x.nxt,.i x.cost]⟩),(5,some ⟨46,none,[.z,.o false,.i 0]⟩),(14,some ⟨46,none,[.sl 13,.o f,.i z]⟩)],175⟩ from rr [pk (AK 110 101 3 3 ((D).map (AG)) ((D).length:Int)),pk (As 3 (k:Int) ((D).length:Int)),pk (Ah 110 101 3 ((D).map (AG)) k (k:Int) (AG (dat D k)) (Bd hk)),pk (Ba 3 ((dat D k).1) x.fst true (decide_eq_true h1)),pk (Ah 110 101 3 ((D).map (AG)) k (k:Int) (AG (dat D k)) (Bd hk)),pk (Ba 3 ((dat D k).2.1) x.nxt false (decide_eq_false h2)),pk (Az 3 (k:Int) 1 ⟨by omega,by omega⟩)]) (t:=⟨[(3,.p 4 0),(4,.p 5 0),(7,.p 14 0),(16,.t (slI 3 ((D).map (AG)))),(17,.i ((k+1:Nat):Int))],[(13,some ⟨103,some (9,n),Ad ((M).map (Al true))⟩),(4,some ⟨28,none,[.i x.kind,.i x.node,.b (.it (fF c' 12 x.q)),.i x.fst,.i x.nxt,.i x.cost]⟩),(5,some ⟨46,none,[.z,.o false,.i 0]⟩),(14,some ⟨46,none,[.sl 13,.o f,.i z]⟩)],150⟩) ⟨rfl,TVle.refl,rfl,TVle.refl,rfl,TVle.refl,rfl,TVle.refl,rfl,TVle.refl,trivial⟩ ⟨rfl,rfl,rfl,ILe.refl,rfl,rfl,rfl,ILe.refl,rfl,rfl,rfl,ILe.refl,rfl,rfl,rfl,ILe.refl,trivial⟩
  ·exact Rnd.nam [] (show Rnd _ _ _ _ _ _ ⟨[(3,.p 4 0),(4,.p 5 0),(7,.p 14 0),(16,.t (slI 3 ((D).map (AG)))),(17,.i ((k+1:Nat):Int))],[(13,some ⟨103,some (9,n),Ad ((M).map (Al true))⟩),(4,some ⟨28,none,[.i x.kind,.i x.node,.b (.it (fF c' 12 x.q)),.i x.fst,.i x.nxt,.i x.cost]⟩),(5,some ⟨46,none,[.z,.o false,.i 0]⟩),(14,some ⟨46,none,[.sl 13,.o f,.i z]⟩)],175⟩ from rr [pk (AK 110 101 3 3 ((D).map (AG)) ((D).length:Int)),pk (As 3 (k:Int) ((D).length:Int)),pk (Ah 110 101 3 ((D).map (AG)) k (k:Int) (AG (dat D k)) (Bd hk)),pk (Ba 3 ((dat D k).1) x.fst false (decide_eq_false h1)),pk (Az 3 (k:Int) 1 ⟨by omega,by omega⟩)]) (t:=⟨[(3,.p 4 0),(4,.p 5 0),(7,.p 14 0),(16,.t (slI 3 ((D).map (AG)))),(17,.i ((k+1:Nat):Int))],[(13,some ⟨103,some (9,n),Ad ((M).map (Al true))⟩),(4,some ⟨28,none,[.i x.kind,.i x.node,.b (.it (fF c' 12 x.q)),.i x.fst,.i x.nxt,.i x.cost]⟩),(5,some ⟨46,none,[.z,.o false,.i 0]⟩),(14,some ⟨46,none,[.sl 13,.o f,.i z]⟩)],150⟩) ⟨rfl,TVle.refl,rfl,TVle.refl,rfl,TVle.refl,rfl,TVle.refl,rfl,TVle.refl,trivial⟩ ⟨rfl,rfl,rfl,ILe.refl,rfl,rfl,rfl,ILe.refl,rfl,rfl,rfl,ILe.refl,rfl,rfl,rfl,ILe.refl,trivial⟩
 ·exact Rnd.nam [] (show Rnd _ _ _ _ _ _ ⟨[(3,.p 4 0),(4,.p 5 0),(7,.p 14 0)],[(13,some ⟨103,some (9,n),Ad ((M).map (Al true))⟩),(4,some ⟨28,none,[.i x.kind,.i x.node,.b (.it (fF c' 12 x.q)),.i x.fst,.i x.nxt,.i x.cost]⟩),(5,some ⟨46,none,[.z,.o false,.i 0]⟩),(14,some ⟨46,none,[.sl 13,.o f,.i z]⟩)],154⟩ from rr [pk (AK 110 101 3 3 ((D).map (AG)) ((D).length:Int)),pk (Aj 3 (D.length:Int) ((D).length:Int))]) (t:=⟨[(3,.p 4 0),(4,.p 5 0),(7,.p 14 0)],[(13,some ⟨103,some (9,n),Ad ((M).map (Al true))⟩),(4,some ⟨28,none,[.i x.kind,.i x.node,.b (.it (fF c' 12 x.q)),.i x.fst,.i x.nxt,.i x.cost]⟩),(5,some ⟨46,none,[.z,.o false,.i 0]⟩),(14,some ⟨46,none,[.sl 13,.o f,.i z]⟩)],150⟩) ⟨rfl,TVle.refl,rfl,TVle.refl,rfl,TVle.refl,trivial⟩ ⟨rfl,rfl,rfl,ILe.refl,rfl,rfl,rfl,ILe.refl,rfl,rfl,rfl,ILe.refl,rfl,rfl,rfl,ILe.refl,trivial⟩
 ·unfold cfC at hc
  by_cases h:(dat D k).1=x.fst∧(dat D k).2.1=x.nxt
  ·obtain ⟨h1,h2⟩:=h
   exact rr [pk (AK 110 101 3 3 ((D).map (AG)) ((D).length:Int)),pk (As 3 (k:Int) ((D).length:Int)),pk (Ah 110 101 3 ((D).map (AG)) k (k:Int) (AG (dat D k)) (Bd hk)),pk (Ba 3 ((dat D k).1) x.fst true (decide_eq_true h1)),pk (Ah 110 101 3 ((D).map (AG)) k (k:Int) (AG (dat D k)) (Bd hk)),pk (Ba 3 ((dat D k).2.1) x.nxt true (decide_eq_true h2))]
  ·rw[if_neg h] at hc;exact absurd rfl hc
def Aax (M:List Nd)(n:Nat)(f:Bool)(z:Int)(i:Int):Go.Proofs.YtdgbealknnmkoaaGreatDoor.St:=⟨[(4,.p 5 0),(7,.p 14 0),(19,.i i)],[(13,some ⟨103,some (9,n),Ad ((M).map (Al true))⟩),(5,some ⟨46,none,[.z,.o false,.i 0]⟩),(14,some ⟨46,none,[.sl 13,.o f,.i z]⟩)],300⟩
theorem WA {f:Bool}{z:Int}{q:Rat}(h:okc q=true):FL f z q=PG f z q:=by unfold FL PG;rw[h,Bool.true_and]
theorem OR (M:List Nd)(f:Bool)(z:Int)(n:Nat)(hn:M.length=n)(hl:n≤2002)(i:Nat)(hi:i < M.length)(hok:okc (tat M i).q=true):Rnd Tryz.prog I 250 (Bj Tryz.prog 29 1) (Aax M n f z (i:Int)) .normal (Aax (if (tat M i).st=0∧FL f z (tat M i).q=true then M.set i ⟨(tat M i).par,(tat M i).fst,(tat M i).nxt,(tat M i).tog,(tat M i).q,2⟩ else M) n f z ((i+1:Nat):Int)):=by
 rw[WA hok];by_cases h1:(tat M i).st=0
 ·cases h2:PG f z (tat M i).q with
  | true =>
   have hb:=GI (I:=I) (c:=true) f z n hn (tat M i).q true h2;rw[if_pos ⟨h1,rfl⟩];exact Rnd.nam [] (show Rnd _ _ _ _ _ _ ⟨[(4,.p 5 0),(7,.p 14 0),(19,.i ((i+1:Nat):Int))],[(13,some ⟨103,some (9,n),Ad (((M).set i ⟨(tat M i).par,(tat M i).fst,(tat M i).nxt,(tat M i).tog,(tat M i).q,2⟩).map (Al true))⟩),(5,some ⟨46,none,[.z,.o false,.i 0]⟩),(14,some ⟨46,none,[.sl 13,.o f,.i z]⟩)],331⟩ from rr [pk (As 3 (i:Int) (n:Nat)),⟨.ix (i:Int) i n,⟨by omega,by omega⟩⟩,⟨.part (Ad ((M).map (Al true))) (i*9+8) 1 [.i ((tat M i).st)],(Ey (c:=true) (fo:=8) (n:=1) hi rfl)⟩,pk (Ba 3 ((tat M i).st) 0 true (decide_eq_true h1)),⟨.ix (i:Int) i n,⟨by omega,by omega⟩⟩,⟨.part (Ad ((M).map (Al true))) (i*9+4) 4 [.b (.it (fF true 12 (tat M i).q))],(Ey (c:=true) (fo:=4) (n:=4) hi rfl)⟩,pom [13] (hb),⟨.ix (i:Int) i n,⟨by omega,by omega⟩⟩,⟨.upd (Ad ((M).map (Al true))) (i*9+8) [.i 2] (Ad (((M).set i ⟨(tat M i).par,(tat M i).fst,(tat M i).nxt,(tat M i).tog,(tat M i).q,2⟩).map (Al true))),(RK (c:=true) (fo:=8) hi ⟨(tat M i).par,(tat M i).fst,(tat M i).nxt,(tat M i).tog,(tat M i).q,2⟩ rfl)⟩,pk (Az 3 (i:Int) 1 ⟨by omega,by omega⟩)]) (t:=⟨[(4,.p 5 0),(7,.p 14 0),(19,.i ((i+1:Nat):Int))],[(13,some ⟨103,some (9,n),Ad (((M).set i ⟨(tat M i).par,(tat M i).fst,(tat M i).nxt,(tat M i).tog,(tat M i).q,2⟩).map (Al true))⟩),(5,some ⟨46,none,[.z,.o false,.i 0]⟩),(14,some ⟨46,none,[.sl 13,.o f,.i z]⟩)],300⟩) ⟨rfl,TVle.refl,rfl,TVle.refl,rfl,TVle.refl,trivial⟩ ⟨rfl,rfl,rfl,ILe.refl,rfl,rfl,rfl,ILe.refl,rfl,rfl,rfl,ILe.refl,trivial⟩
  | false =>
   have hb:=GI (I:=I) (c:=true) f z n hn (tat M i).q false h2;rw[if_neg (fun h=>by cases h.2)]
   exact Rnd.nam [] (show Rnd _ _ _ _ _ _ ⟨[(4,.p 5 0),(7,.p 14 0),(19,.i ((i+1:Nat):Int))],[(13,some ⟨103,some (9,n),Ad ((M).map (Al true))⟩),(5,some ⟨46,none,[.z,.o false,.i 0]⟩),(14,some ⟨46,none,[.sl 13,.o f,.i z]⟩)],325⟩ from rr [pk (As 3 (i:Int) (n:Nat)),⟨.ix (i:Int) i n,⟨by omega,by omega⟩⟩,⟨.part (Ad ((M).map (Al true))) (i*9+8) 1 [.i ((tat M i).st)],(Ey (c:=true) (fo:=8) (n:=1) hi rfl)⟩,pk (Ba 3 ((tat M i).st) 0 true (decide_eq_true h1)),⟨.ix (i:Int) i n,⟨by omega,by omega⟩⟩,⟨.part (Ad ((M).map (Al true))) (i*9+4) 4 [.b (.it (fF true 12 (tat M i).q))],(Ey (c:=true) (fo:=4) (n:=4) hi rfl)⟩,pom [13] (hb),pk (Az 3 (i:Int) 1 ⟨by omega,by omega⟩)]) (t:=⟨[(4,.p 5 0),(7,.p 14 0),(19,.i ((i+1:Nat):Int))],[(13,some ⟨103,some (9,n),Ad ((M).map (Al true))⟩),(5,some ⟨46,none,[.z,.o false,.i 0]⟩),(14,some ⟨46,none,[.sl 13,.o f,.i z]⟩)],300⟩) ⟨rfl,TVle.refl,rfl,TVle.refl,rfl,TVle.refl,trivial⟩ ⟨rfl,rfl,rfl,ILe.refl,rfl,rfl,rfl,ILe.refl,rfl,rfl,rfl,ILe.refl,trivial⟩
 ·rw[if_neg (fun h=>h1 h.1)]
  exact Rnd.nam [] (show Rnd _ _ _ _ _ _ ⟨[(4,.p 5 0),(7,.p 14 0),(19,.i ((i+1:Nat):Int))],[(13,some ⟨103,some (9,n),Ad ((M).map (Al true))⟩),(5,some ⟨46,none,[.z,.o false,.i 0]⟩),(14,some ⟨46,none,[.sl 13,.o f,.i z]⟩)],325⟩ from rr [pk (As 3 (i:Int) (n:Nat)),⟨.ix (i:Int) i n,⟨by omega,by omega⟩⟩,⟨.part (Ad ((M).map (Al true))) (i*9+8) 1 [.i ((tat M i).st)],(Ey (c:=true) (fo:=8) (n:=1) hi rfl)⟩,pk (Ba 3 ((tat M i).st) 0 false (decide_eq_false h1)),pk (Az 3 (i:Int) 1 ⟨by omega,by omega⟩)]) (t:=⟨[(4,.p 5 0),(7,.p 14 0),(19,.i ((i+1:Nat):Int))],[(13,some ⟨103,some (9,n),Ad ((M).map (Al true))⟩),(5,some ⟨46,none,[.z,.o false,.i 0]⟩),(14,some ⟨46,none,[.sl 13,.o f,.i z]⟩)],300⟩) ⟨rfl,TVle.refl,rfl,TVle.refl,rfl,TVle.refl,trivial⟩ ⟨rfl,rfl,rfl,ILe.refl,rfl,rfl,rfl,ILe.refl,rfl,rfl,rfl,ILe.refl,trivial⟩
theorem Adc (L:List Nd)(f:Bool)(z:Int)(i j:Nat)(hi:i≤L.length)(hj:j < L.length):(tat (clP L f z i) j).q=(tat L j).q:=by
 have h:=P9 L f z i hi j;have hg:L[j]? = some (tat L j):=CZ hj;have e:=CZ (L:=clP L f z i) (i:=j) (by rw[Kb];exact hj)
 rw[e,hg] at h;by_cases hji:j < i
 ·rw[if_pos hji] at h
  injection h with h;rw[h];unfold clN;split <;> rfl
 ·rw[if_neg hji] at h
  injection h with h;rw[h]
theorem Qv (L:List Nd)(f:Bool)(z:Int)(n:Nat)(hn:L.length=n)(hl:n≤2002)(hok : ∀ i,i < n→okc (tat L i).q=true):LoopTr Tryz.prog I 250 (Bj Tryz.prog 29 1) (Aax L n f z ((0:Nat):Int)) (.exit 3) ⟨[(4,.p 5 0),(7,.p 14 0)],[(13,some ⟨103,some (9,n),Ad (((clL L f z)).map (Al true))⟩),(5,some ⟨46,none,[.z,.o false,.i 0]⟩),(14,some ⟨46,none,[.sl 13,.o f,.i z]⟩)],300⟩ :=
 Ck (by simp) (fun i=>Aax (clP L f z i) n f z (i:Int)) n (fun i hi=>by
  have hm:=Kb L f z i;exact OR (I:=I) (clP L f z i) f z n (by omega) hl i (by omega) (by rw[Adc L f z i i (by omega) (by omega)];exact hok i hi)) (by
  rw[Add f z hn];generalize clL L f z=M;exact Rnd.nam [] (show Rnd _ _ _ _ _ _ ⟨[(4,.p 5 0),(7,.p 14 0)],[(13,some ⟨103,some (9,n),Ad ((M).map (Al true))⟩),(5,some ⟨46,none,[.z,.o false,.i 0]⟩),(14,some ⟨46,none,[.sl 13,.o f,.i z]⟩)],305⟩ from rr [pk (Aj 3 (n:Int) (n:Nat))]) (t:=⟨[(4,.p 5 0),(7,.p 14 0)],[(13,some ⟨103,some (9,n),Ad ((M).map (Al true))⟩),(5,some ⟨46,none,[.z,.o false,.i 0]⟩),(14,some ⟨46,none,[.sl 13,.o f,.i z]⟩)],300⟩) ⟨rfl,TVle.refl,rfl,TVle.refl,trivial⟩ ⟨rfl,rfl,rfl,ILe.refl,rfl,rfl,rfl,ILe.refl,rfl,rfl,rfl,ILe.refl,trivial⟩)
end
theorem Th {L:List Nd}{f:Bool}{z:Int}(h:tvc L f z=0){i:Nat}(hi:i < L.length):okc (tat L i).q=true:=by
 obtain ⟨_,_,_,_,h5,_⟩:=LS h;have:=Bn.1 h5 i (Nat.zero_le _) (by omega)
 unfold CE at this;split at this
 ·omega
 ·cases hk:okc (tat L i).q with
  | true=>rfl
  | false=>rw[hk] at this;exact absurd this (by decide)
theorem Zn {L:List Nd}{i:Nat}(h:i < L.length):tat L i∈L:=by
 have:=CZ h;exact List.mem_of_getElem? this
theorem ZM {L:List Nd}{y:Nd}(h:y∈L) : ∃ i,i < L.length∧y=tat L i:=by
 obtain ⟨i,hi,e⟩:=List.mem_iff_getElem.1 h;have:=CZ hi;rw[List.getElem?_eq_getElem hi,e] at this;injection this with this;exact ⟨i,hi,this⟩
theorem Aa7 {L : List Nd} {f : Bool} {z : Int} {x : Ch} (h : tvc L f z = 0) (hc : chE L x = 0) : ∀ i, i < (chM L f z x).1.length → okc (tat (chM L f z x).1 i).q = true := by
 have hok:=fun i hi=>Th h (i:=i) hi
 have hall : ∀ y∈L,okc y.q=true:=fun y hy=>by obtain ⟨i,hi,rfl⟩:=ZM hy;exact hok i hi
 suffices ∀ y∈(chM L f z x).1,okc y.q=true from fun i hi=>this _ (Zn hi)
 unfold chE at hc;unfold chM;by_cases k1:x.kind=1
 ·rw[if_pos k1] at hc ⊢
  unfold raE at hc;by_cases h1:x.node < 0∨(L.length:Int)≤x.node
  ·rw[if_pos h1] at hc;omega
  ·rw[if_neg h1] at hc
   cases h3:okc x.q with
   | false=>rw[h3,if_pos rfl] at hc;omega
   | true =>
    intro y hy;unfold raL at hy
    dsimp only at hy
    split at hy
    ·rcases List.mem_or_eq_of_mem_set hy with hy | rfl
     ·exact hall y hy
     ·exact h3
    ·exact hall y hy
 ·rw[if_neg k1] at hc ⊢
  by_cases k2:x.kind=2
  ·rw[if_pos k2] at hc ⊢
   unfold spE at hc;by_cases h1:x.node < 0∨(L.length:Int)≤x.node∨x.fst < 0∨x.nxt < 0∨x.fst=x.nxt
   ·rw[if_pos h1] at hc;omega
   ·have hi:x.node.toNat < L.length:=by omega
    intro y hy;unfold spL at hy
    dsimp only at hy
    rcases List.mem_append.1 hy with hy | hy
    ·unfold FV at hy
     rcases List.mem_or_eq_of_mem_set hy with hy | rfl
     ·exact hall y hy
     ·exact hok _ hi
    ·simp at hy
     rcases hy with rfl | rfl <;> exact hok _ hi
  ·rw[if_neg k2] at hc ⊢
   exact hall
section
variable {I:WInv}{c c':Bool}
theorem Qx (L : List Nd) (f : Bool) (z : Int) (x : Ch) (h : tvc L f z = 0) (hc : chE L x ≠ 0) : SpM Tryz.prog I 29 [] [trT c L f z, chT c' x] [] (.tu [.ag [.z, .o false, .i 0], ci (chE L x)]) := by
 obtain ⟨h1,h2,_,_,_,h6,_⟩:=LS h;have hD:=(Wy h6).2;have va:=FM (I:=I) (c:=c) L f z (by omega)
 rw[RR,h] at va;have hco:=R2 (I:=I) (c:=c) L f z h1 (by omega)
 unfold chE at hc ⊢;by_cases k1:x.kind=1
 ·rw [if_pos k1] at hc ⊢
  unfold raE at hc ⊢;have hce:=BI (I:=I) (c:=c') (p:=x.q);by_cases g1:x.node < 0
  ·rw[if_pos (.inl g1)]
   cases h3:okc x.q with
   | true =>
    rw[MQ h3] at hce;exact sm 250 [po (va),pa,pom [] (hco),pk (Cu 3 x.node 0),pk (Ba 3 x.kind 1 true (decide_eq_true (by omega))),po (hce),pa]
   | false =>
    rw[PD h3] at hce;exact sm 250 [po (va),pa,pom [] (hco),pk (Cu 3 x.node 0),pk (Ba 3 x.kind 1 true (decide_eq_true (by omega))),po (hce),pa]
  ·by_cases g2:(L.length:Int)≤x.node
   ·rw[if_pos (.inr g2)]
    cases h3:okc x.q with
    | true =>
     rw[MQ h3] at hce;exact sm 250 [po (va),pa,pom [] (hco),pk (B0 3 x.node 0),pk (Aj 3 x.node (L.length:Nat)),pk (Ba 3 x.kind 1 true (decide_eq_true (by omega))),po (hce),pa]
    | false =>
     rw[PD h3] at hce;exact sm 250 [po (va),pa,pom [] (hco),pk (B0 3 x.node 0),pk (Aj 3 x.node (L.length:Nat)),pk (Ba 3 x.kind 1 true (decide_eq_true (by omega))),po (hce),pa]
   ·rw[if_neg (by omega)] at hc ⊢
    cases h3:okc x.q with
    | false =>
     rw[PD h3] at hce;rw[if_pos rfl];exact sm 250 [po (va),pa,pom [] (hco),pk (B0 3 x.node 0),pk (As 3 x.node (L.length:Nat)),pk (Ba 3 x.kind 1 true (decide_eq_true (by omega))),po (hce),pa,pa]
    | true =>
     rw[MQ h3] at hce;rw[h3,if_neg (by decide)] at hc
     rw[if_neg (by decide)]
     obtain ⟨i,hni⟩ : ∃ i:Nat,x.node=(i:Int):=⟨x.node.toNat,by omega⟩
     have hi:i < L.length:=by omega
     have ht:x.node.toNat=i:=by omega
     rw[ht] at hc ⊢;by_cases h4:(tat L i).st=0
     ·rw[if_neg (by simp[h4])] at hc;exact absurd rfl hc
     ·rw[if_pos h4]
      have hop:=DU (I:=I) (c:=true) f z L.length rfl i hi 16 (if_neg h4);rw[←hni] at hop;exact sm 250 [po (va),pa,pom [] (hco),pk (B0 3 x.node 0),pk (As 3 x.node (L.length:Nat)),pk (Ba 3 x.kind 1 true (decide_eq_true (by omega))),po (hce),pa,pa,pom [13] (hop),pa]
 ·rw [if_neg k1] at hc ⊢
  by_cases k2:x.kind=2
  ·rw [if_pos k2] at hc ⊢
   unfold spE at hc ⊢;by_cases g1:x.node < 0
   ·rw[if_pos (.inl g1)]
    exact sm 250 [po (va),pa,pom [] (hco),pk (Cu 3 x.node 0),pk (Af 3 x.kind 1),pk (Ak 3 x.kind 2),pa]
   ·by_cases g2 : (L.length : Int) ≤ x.node
    ·rw[if_pos (.inr (.inl g2))]
     exact sm 250 [po (va),pa,pom [] (hco),pk (B0 3 x.node 0),pk (Aj 3 x.node (L.length:Nat)),pk (Af 3 x.kind 1),pk (Ak 3 x.kind 2),pa]
    ·by_cases g3 : x.fst < 0
     ·rw[if_pos (.inr (.inr (.inl g3)))]
      exact sm 250 [po (va),pa,pom [] (hco),pk (B0 3 x.node 0),pk (As 3 x.node (L.length:Nat)),pk (Af 3 x.kind 1),pk (Ak 3 x.kind 2),pa,pk (As 3 x.fst 0)]
     ·by_cases g4 : x.nxt < 0
      ·rw[if_pos (.inr (.inr (.inr (.inl g4))))]
       exact sm 250 [po (va),pa,pom [] (hco),pk (B0 3 x.node 0),pk (As 3 x.node (L.length:Nat)),pk (Af 3 x.kind 1),pk (Ak 3 x.kind 2),pa,pk (Aj 3 x.fst 0),pk (As 3 x.nxt 0)]
      ·by_cases g5 : x.fst = x.nxt
       ·rw[if_pos (.inr (.inr (.inr (.inr g5))))]
        exact sm 250 [po (va),pa,pom [] (hco),pk (B0 3 x.node 0),pk (As 3 x.node (L.length:Nat)),pk (Af 3 x.kind 1),pk (Ak 3 x.kind 2),pa,pk (Aj 3 x.fst 0),pk (Aj 3 x.nxt 0),pk (Ak 3 x.fst x.nxt)]
       ·rw [if_neg (by omega)] at hc ⊢
        obtain ⟨i,hni⟩ : ∃ i:Nat,x.node=(i:Int):=⟨x.node.toNat,by omega⟩
        have hi:i < L.length:=by omega
        have ht:x.node.toNat=i:=by omega
        rw[ht] at hc ⊢;by_cases h4:(tat L i).st=0
        ·rw[if_neg (by simp[h4])] at hc ⊢
         have hop:=DU (I:=I) (c:=true) f z L.length rfl i hi 0 (if_pos h4);have hli:=Mw (I:=I) (c:=true) L f z L.length rfl (by omega)
         have hpa:=Mg (I:=I) L (by omega) i hi (fun j h0 hj=>hD j h0 (by omega))
         have hcf:=Ui (L:=L) (i:=i) (x:=x);have hlen:=GS L i;rw[←hni] at hop hpa;have lo:=(Uh (I:=I) (c':=c') L L.length f z x (Bh L i) (by omega)).2
         generalize Bh L i=D at *;by_cases h7:2000 < L.length+2
         ·rw[if_pos (.inl h7)]
          exact sm 250 [po (va),pa,pom [] (hco),pk (B0 3 x.node 0),pk (As 3 x.node (L.length:Nat)),pk (Af 3 x.kind 1),pk (Ak 3 x.kind 2),pa,pk (Aj 3 x.fst 0),pk (Aj 3 x.nxt 0),pk (Af 3 x.fst x.nxt),pom [13] (hop),pa,pom [13] (hli),po (hpa),pk (Az 3 (L.length:Nat) 2 ⟨by omega,by omega⟩),pk (BN 3 ((L.length:Nat)+2) 2000)]
         ·by_cases h8:32≤D.length
          ·rw[if_pos (.inr h8)]
           exact sm 250 [po (va),pa,pom [] (hco),pk (B0 3 x.node 0),pk (As 3 x.node (L.length:Nat)),pk (Af 3 x.kind 1),pk (Ak 3 x.kind 2),pa,pk (Aj 3 x.fst 0),pk (Aj 3 x.nxt 0),pk (Af 3 x.fst x.nxt),pom [13] (hop),pa,pom [13] (hli),po (hpa),pk (Az 3 (L.length:Nat) 2 ⟨by omega,by omega⟩),pk (Ao 3 ((L.length:Nat)+2) 2000),pk (AK 110 101 3 3 ((D).map (AG)) ((D).length:Int)),pk (Az 3 ((D).length:Int) 1 ⟨by omega,by omega⟩),pk (BN 3 (((D).length:Int)+1) 32)]
          ·rw[if_neg (by omega)] at hc ⊢
           cases h9:MN L i x.fst x.nxt with
           | false=>rw[h9] at hc;exact absurd rfl hc
           | true =>
            have lo:=lo (fun hh=>by rw[hcf,h9] at hh;cases hh)
            rw[if_pos rfl];exact sm 250 [po (va),pa,pom [] (hco),pk (B0 3 x.node 0),pk (As 3 x.node (L.length:Nat)),pk (Af 3 x.kind 1),pk (Ak 3 x.kind 2),pa,pk (Aj 3 x.fst 0),pk (Aj 3 x.nxt 0),pk (Af 3 x.fst x.nxt),pom [13] (hop),pa,pom [13] (hli),po (hpa),pk (Az 3 (L.length:Nat) 2 ⟨by omega,by omega⟩),pk (Ao 3 ((L.length:Nat)+2) 2000),pk (AK 110 101 3 3 ((D).map (AG)) ((D).length:Int)),pk (Az 3 ((D).length:Int) 1 ⟨by omega,by omega⟩),pk (Ao 3 (((D).length:Int)+1) 32),pl (lo)]
        ·rw[if_pos h4]
         have hop:=DU (I:=I) (c:=true) f z L.length rfl i hi 16 (if_neg h4);rw[←hni] at hop;exact sm 250 [po (va),pa,pom [] (hco),pk (B0 3 x.node 0),pk (As 3 x.node (L.length:Nat)),pk (Af 3 x.kind 1),pk (Ak 3 x.kind 2),pa,pk (Aj 3 x.fst 0),pk (Aj 3 x.nxt 0),pk (Af 3 x.fst x.nxt),pom [13] (hop),pa]
  ·rw[if_neg k2] at hc ⊢
   by_cases k3:x.kind=3
   ·rw[if_pos k3] at hc ⊢
    have hc3:=EA (I:=I) x.cost;unfold fiE at hc ⊢;cases g:BS x.cost with
    | true=>rw[g] at hc;exact absurd rfl hc
    | false =>
     rw[g] at hc3;rw[if_neg (by decide)]
     by_cases g1:x.node < 0
     ·exact sm 250 [po (va),pa,pom [] (hco),pk (Cu 3 x.node 0),pk (Af 3 x.kind 1),pk (Af 3 x.kind 2),pk (Ak 3 x.kind 3),po (hc3),pa]
     ·by_cases g2:(L.length:Int)≤x.node
      ·exact sm 250 [po (va),pa,pom [] (hco),pk (B0 3 x.node 0),pk (Aj 3 x.node (L.length:Nat)),pk (Af 3 x.kind 1),pk (Af 3 x.kind 2),pk (Ak 3 x.kind 3),po (hc3),pa]
      ·exact sm 250 [po (va),pa,pom [] (hco),pk (B0 3 x.node 0),pk (As 3 x.node (L.length:Nat)),pk (Af 3 x.kind 1),pk (Af 3 x.kind 2),pk (Ak 3 x.kind 3),po (hc3),pa]
   ·rw[if_neg k3]
    by_cases g1:x.node < 0
    ·exact sm 250 [po (va),pa,pom [] (hco),pk (Cu 3 x.node 0),pk (Af 3 x.kind 1),pk (Af 3 x.kind 2),pk (Af 3 x.kind 3)]
    ·by_cases g2:(L.length:Int)≤x.node
     ·exact sm 250 [po (va),pa,pom [] (hco),pk (B0 3 x.node 0),pk (Aj 3 x.node (L.length:Nat)),pk (Af 3 x.kind 1),pk (Af 3 x.kind 2),pk (Af 3 x.kind 3)]
     ·exact sm 250 [po (va),pa,pom [] (hco),pk (B0 3 x.node 0),pk (As 3 x.node (L.length:Nat)),pk (Af 3 x.kind 1),pk (Af 3 x.kind 2),pk (Af 3 x.kind 3)]
end
theorem Wp {L:List Nd}{x:Ch}{i:Nat}(ht:x.node.toNat=i)(hi:i < L.length):Ad ((FV L i).map (Al true))++[Al true ⟨x.node,x.fst,x.nxt,true,(tat (FV L i) i).q,0⟩,Al true ⟨x.node,x.fst,x.nxt,false,(tat (FV L i) i).q,0⟩].flatten.map It.b=Ad ((spL L x).map (Al true)):=by
 unfold spL kid;rw[ht,X1 hi,List.map_append,C2];rfl
section
variable {I:WInv}{c c':Bool}
theorem UZ (L : List Nd) (f : Bool) (z : Int) (x : Ch) (h : tvc L f z = 0) (hc : chE L x = 0) : SpM Tryz.prog I 29 [] [trT c L f z, chT c' x] [(2, some (nbx true (chS L f z x).1 (chS L f z x).1.length))] (.tu [.ag [.sl 2, .b (.lit (.bool (chS L f z x).2.1)), .b (.lit (.int .i64 (chS L f z x).2.2))], ci 0]) := by
 obtain ⟨h1,h2,_,_,_,h6,_⟩:=LS h;have hD:=(Wy h6).2;have va:=FM (I:=I) (c:=c) L f z (by omega)
 rw[RR,h] at va;have hco:=R2 (I:=I) (c:=c) L f z h1 (by omega)
 have hok:=Aa7 h hc;have hln:=Ug L f z x;have hsn:=Aa6 L f z x;rw[hsn];unfold chS;have lo:=Qv (I:=I) (chM L f z x).1 (chM L f z x).2.1 (chM L f z x).2.2 (chM L f z x).1.length rfl (by rw[hln];split <;> omega) hok
 rw[hln] at lo;unfold chE at hc;unfold chM at lo ⊢;by_cases k1:x.kind=1
 ·rw [if_pos k1] at hc
  rw[if_pos k1] at lo ⊢;rw[if_neg (show ¬ x.kind=2 by omega)] at lo ⊢
  dsimp only at lo ⊢
  unfold raE at hc;by_cases g:x.node < 0∨(L.length:Int)≤x.node
  ·rw[if_pos g] at hc;omega
  ·rw[if_neg g] at hc
   cases h3:okc x.q with
   | false=>rw[h3,if_pos rfl] at hc;omega
   | true =>
    have hce:=BI (I:=I) (c:=c') (p:=x.q);rw[MQ h3] at hce;rw[h3,if_neg (by decide)] at hc
    obtain ⟨i,hni⟩ : ∃ i:Nat,x.node=(i:Int):=⟨x.node.toNat,by omega⟩
    have hi:i < L.length:=by omega
    have ht:x.node.toNat=i:=by omega
    rw[ht] at hc;by_cases h4:(tat L i).st=0
    ·have hop:=DU (I:=I) (c:=true) f z L.length rfl i hi 0 (if_pos h4)
     rw[←hni] at hop;by_cases h5:(tat L i).q < x.q
     ·have hM:raL L x=L.set i ⟨(tat L i).par,(tat L i).fst,(tat L i).nxt,(tat L i).tog,x.q,(tat L i).st⟩:=by unfold raL;rw[ht,if_pos h5]
      rw[hM] at lo ⊢;generalize clL (L.set i ⟨(tat L i).par,(tat L i).fst,(tat L i).nxt,(tat L i).tog,x.q,(tat L i).st⟩) f z=K at *;exact sm 250 [po (va),pa,pom [] (hco),pk (B0 3 x.node 0),pk (As 3 x.node (L.length:Nat)),pk (Ba 3 x.kind 1 true (decide_eq_true (by omega))),po (hce),pa,pa,pom [13] (hop),pa,⟨.ix x.node i L.length,⟨by omega,by omega⟩⟩,⟨.part (Ad ((L).map (Al true))) (i*9+4) 4 [.b (.it (fF true 12 (tat L i).q))],(Ey (c:=true) (fo:=4) (n:=4) hi rfl)⟩,po (P7 (I:=I) (c:=c') (c':=true) (p:=x.q) (q:=(tat L i).q)),pk (MW 3 (FF x.q ((tat L i).q)) 0 true (Y8 h5)),po (Bx (I:=I) (c:=c') (k:=12) (p:=x.q) (by omega)),⟨.ix x.node i L.length,⟨by omega,by omega⟩⟩,⟨.upd (Ad ((L).map (Al true))) (i*9+4) [.b (.it (fF true 12 x.q))] (Ad (((L).set i ⟨(tat L i).par,(tat L i).fst,(tat L i).nxt,(tat L i).tog,x.q,(tat L i).st⟩).map (Al true))),(RK (c:=true) (fo:=4) hi ⟨(tat L i).par,(tat L i).fst,(tat L i).nxt,(tat L i).tog,x.q,(tat L i).st⟩ rfl)⟩,pl (lo),pm ((show Leads I _ ⟨[(4,.p 5 0),(7,.p 14 0)],[(13,some ⟨103,some (9,L.length),Ad ((K).map (Al true))⟩),(5,some ⟨46,none,[.z,.o false,.i 0]⟩),(14,some ⟨46,none,[.sl 13,.o f,.i z]⟩)],300⟩ ⟨[(4,.p 5 0),(7,.p 14 0)],[(2,some ⟨103,some (9,L.length),Ad ((K).map (Al true))⟩),(5,some ⟨46,none,[.z,.o false,.i 0]⟩),(14,some ⟨46,none,[.sl 2,.o f,.i z]⟩)],300⟩ from AN [(2,13)] ⟨rfl,TVle.refl,rfl,TVle.refl,trivial⟩ ⟨rfl,rfl,rfl,ILe.refl,rfl,rfl,rfl,ILe.refl,rfl,rfl,rfl,ILe.refl,trivial⟩))]
     ·have hM:raL L x=L:=by unfold raL;rw[ht,if_neg h5]
      rw[hM] at lo ⊢;generalize clL L f z=K at *;exact sm 250 [po (va),pa,pom [] (hco),pk (B0 3 x.node 0),pk (As 3 x.node (L.length:Nat)),pk (Ba 3 x.kind 1 true (decide_eq_true (by omega))),po (hce),pa,pa,pom [13] (hop),pa,⟨.ix x.node i L.length,⟨by omega,by omega⟩⟩,⟨.part (Ad ((L).map (Al true))) (i*9+4) 4 [.b (.it (fF true 12 (tat L i).q))],(Ey (c:=true) (fo:=4) (n:=4) hi rfl)⟩,po (P7 (I:=I) (c:=c') (c':=true) (p:=x.q) (q:=(tat L i).q)),pk (MW 3 (FF x.q ((tat L i).q)) 0 false (Y9 h5)),pl (lo),pm ((show Leads I _ ⟨[(4,.p 5 0),(7,.p 14 0)],[(13,some ⟨103,some (9,L.length),Ad ((K).map (Al true))⟩),(5,some ⟨46,none,[.z,.o false,.i 0]⟩),(14,some ⟨46,none,[.sl 13,.o f,.i z]⟩)],300⟩ ⟨[(4,.p 5 0),(7,.p 14 0)],[(2,some ⟨103,some (9,L.length),Ad ((K).map (Al true))⟩),(5,some ⟨46,none,[.z,.o false,.i 0]⟩),(14,some ⟨46,none,[.sl 2,.o f,.i z]⟩)],300⟩ from AN [(2,13)] ⟨rfl,TVle.refl,rfl,TVle.refl,trivial⟩ ⟨rfl,rfl,rfl,ILe.refl,rfl,rfl,rfl,ILe.refl,rfl,rfl,rfl,ILe.refl,trivial⟩))]
    ·rw[if_pos h4] at hc;omega
 ·rw [if_neg k1] at hc
  rw[if_neg k1] at lo ⊢;by_cases k2:x.kind=2
  ·rw [if_pos k2] at hc
   simp only[if_pos k2] at lo ⊢;unfold spE at hc;by_cases g:x.node < 0∨(L.length:Int)≤x.node∨x.fst < 0∨x.nxt < 0∨x.fst=x.nxt
   ·rw[if_pos g] at hc;omega
   ·rw[if_neg g] at hc
    obtain ⟨i,hni⟩ : ∃ i:Nat,x.node=(i:Int):=⟨x.node.toNat,by omega⟩
    have hi:i < L.length:=by omega
    have ht:x.node.toNat=i:=by omega
    rw[ht] at hc;by_cases h4:(tat L i).st=0
    ·rw[if_neg (by simp[h4])] at hc
     have hop:=DU (I:=I) (c:=true) f z L.length rfl i hi 0 (if_pos h4);have hli:=Mw (I:=I) (c:=true) L f z L.length rfl (by omega)
     have hpa:=Mg (I:=I) L (by omega) i hi (fun j h0 hj=>hD j h0 (by omega))
     have hcf:=Ui (L:=L) (i:=i) (x:=x);have hlen:=GS L i;rw[←hni] at hop hpa;have lc:=(Uh (I:=I) (c':=c') L L.length f z x (Bh L i) (by omega)).1
     by_cases h7:2000 < L.length+2∨32≤(Bh L i).length
     ·rw[if_pos h7] at hc;omega
     ·rw[if_neg h7] at hc
      cases h9:MN L i x.fst x.nxt with
      | true=>rw[h9,if_pos rfl] at hc;omega
      | false =>
       have lc:=lc (hcf.2 h9);generalize Bh L i=D at *;generalize clL (spL L x) f z=K at *;exact sm 250 [po (va),pa,pom [] (hco),pk (B0 3 x.node 0),pk (As 3 x.node (L.length:Nat)),pk (Af 3 x.kind 1),pk (Ak 3 x.kind 2),pa,pk (Aj 3 x.fst 0),pk (Aj 3 x.nxt 0),pk (Af 3 x.fst x.nxt),pom [13] (hop),pa,pom [13] (hli),po (hpa),pk (Az 3 (L.length:Nat) 2 ⟨by omega,by omega⟩),pk (Ao 3 ((L.length:Nat)+2) 2000),pk (AK 110 101 3 3 ((D).map (AG)) ((D).length:Int)),pk (Az 3 ((D).length:Int) 1 ⟨by omega,by omega⟩),pk (Ao 3 (((D).length:Int)+1) 32),pl (lc),⟨.ix x.node i L.length,⟨by omega,by omega⟩⟩,⟨.upd (Ad ((L).map (Al true))) (i*9+8) [.i 1] (Ad (((L).set i ⟨(tat L i).par,(tat L i).fst,(tat L i).nxt,(tat L i).tog,(tat L i).q,1⟩).map (Al true))),(RK (c:=true) (fo:=8) hi ⟨(tat L i).par,(tat L i).fst,(tat L i).nxt,(tat L i).tog,(tat L i).q,1⟩ rfl)⟩,⟨.ix x.node i L.length,⟨by omega,by omega⟩⟩,⟨.part (Ad (((L).set i ⟨(tat L i).par,(tat L i).fst,(tat L i).nxt,(tat L i).tog,(tat L i).q,1⟩).map (Al true))) (i*9+4) 4 [.b (.it (fF true 12 (tat ((L).set i ⟨(tat L i).par,(tat L i).fst,(tat L i).nxt,(tat L i).tog,(tat L i).q,1⟩) i).q))],(Ey (c:=true) (fo:=4) (n:=4) (by rw[List.length_set];exact hi) rfl)⟩,⟨.ap L.length 2 104,⟨by omega,by simp only[maxLen];omega⟩⟩,pm ((show Leads I _ ⟨[(4,.p 5 0),(7,.p 14 0)],[(187,some ⟨103,some (9,L.length+2),(Ad (((L).set i ⟨(tat L i).par,(tat L i).fst,(tat L i).nxt,(tat L i).tog,(tat L i).q,1⟩).map (Al true)))++([.i x.node,.i x.fst,.i x.nxt,.o true,.b (.it (fF true 12 (tat ((L).set i ⟨(tat L i).par,(tat L i).fst,(tat L i).nxt,(tat L i).tog,(tat L i).q,1⟩) i).q)),.i 0,.i x.node,.i x.fst,.i x.nxt,.o false,.b (.it (fF true 12 (tat ((L).set i ⟨(tat L i).par,(tat L i).fst,(tat L i).nxt,(tat L i).tog,(tat L i).q,1⟩) i).q)),.i 0])⟩),(5,some ⟨46,none,[.z,.o false,.i 0]⟩),(14,some ⟨46,none,[.sl 187,.o f,.i z]⟩)],190⟩ ⟨[(4,.p 5 0),(7,.p 14 0)],[(13,some ⟨103,some (9,L.length+2),Ad ((spL L x).map (Al true))⟩),(5,some ⟨46,none,[.z,.o false,.i 0]⟩),(14,some ⟨46,none,[.sl 13,.o f,.i z]⟩)],190⟩ from AN [(13,187)] ⟨rfl,TVle.refl,rfl,TVle.refl,trivial⟩ ⟨rfl,rfl,rfl,ILe.eq (show (Ad (((L).set i ⟨(tat L i).par,(tat L i).fst,(tat L i).nxt,(tat L i).tog,(tat L i).q,1⟩).map (Al true)))++([.i x.node,.i x.fst,.i x.nxt,.o true,.b (.it (fF true 12 (tat ((L).set i ⟨(tat L i).par,(tat L i).fst,(tat L i).nxt,(tat L i).tog,(tat L i).q,1⟩) i).q)),.i 0,.i x.node,.i x.fst,.i x.nxt,.o false,.b (.it (fF true 12 (tat ((L).set i ⟨(tat L i).par,(tat L i).fst,(tat L i).nxt,(tat L i).tog,(tat L i).q,1⟩) i).q)),.i 0])=Ad ((spL L x).map (Al true)) from (Wp ht hi)),rfl,rfl,rfl,ILe.refl,rfl,rfl,rfl,ILe.refl,trivial⟩)),pl (lo),pm ((show Leads I _ ⟨[(4,.p 5 0),(7,.p 14 0)],[(13,some ⟨103,some (9,L.length+2),Ad ((K).map (Al true))⟩),(5,some ⟨46,none,[.z,.o false,.i 0]⟩),(14,some ⟨46,none,[.sl 13,.o f,.i z]⟩)],300⟩ ⟨[(4,.p 5 0),(7,.p 14 0)],[(2,some ⟨103,some (9,L.length+2),Ad ((K).map (Al true))⟩),(5,some ⟨46,none,[.z,.o false,.i 0]⟩),(14,some ⟨46,none,[.sl 2,.o f,.i z]⟩)],300⟩ from AN [(2,13)] ⟨rfl,TVle.refl,rfl,TVle.refl,trivial⟩ ⟨rfl,rfl,rfl,ILe.refl,rfl,rfl,rfl,ILe.refl,rfl,rfl,rfl,ILe.refl,trivial⟩))]
    ·rw[if_pos h4] at hc;omega
  ·rw [if_neg k2] at hc
   simp only[if_neg k2] at lo ⊢;by_cases k3:x.kind=3
   ·rw [if_pos k3] at hc
    have hc3:=EA (I:=I) x.cost;unfold fiE at hc;cases g:BS x.cost with
    | false=>rw[g] at hc;exact absurd hc (by decide)
    | true =>
     rw[g] at hc3;unfold fnF at lo ⊢;cases f with
     | false =>
      simp only[true_or,if_true] at lo ⊢;generalize clL L true x.cost=K at *;by_cases g1:x.node < 0
      ·exact sm 250 [po (va),pa,pom [] (hco),pk (Cu 3 x.node 0),pk (Af 3 x.kind 1),pk (Af 3 x.kind 2),pk (Ak 3 x.kind 3),po (hc3),pa,pa,pl (lo),pm ((show Leads I _ ⟨[(4,.p 5 0),(7,.p 14 0)],[(13,some ⟨103,some (9,L.length),Ad ((K).map (Al true))⟩),(5,some ⟨46,none,[.z,.o false,.i 0]⟩),(14,some ⟨46,none,[.sl 13,.o true,.i x.cost]⟩)],300⟩ ⟨[(4,.p 5 0),(7,.p 14 0)],[(2,some ⟨103,some (9,L.length),Ad ((K).map (Al true))⟩),(5,some ⟨46,none,[.z,.o false,.i 0]⟩),(14,some ⟨46,none,[.sl 2,.o true,.i x.cost]⟩)],300⟩ from AN [(2,13)] ⟨rfl,TVle.refl,rfl,TVle.refl,trivial⟩ ⟨rfl,rfl,rfl,ILe.refl,rfl,rfl,rfl,ILe.refl,rfl,rfl,rfl,ILe.refl,trivial⟩))]
      ·by_cases g2:(L.length:Int)≤x.node
       ·exact sm 250 [po (va),pa,pom [] (hco),pk (B0 3 x.node 0),pk (Aj 3 x.node (L.length:Nat)),pk (Af 3 x.kind 1),pk (Af 3 x.kind 2),pk (Ak 3 x.kind 3),po (hc3),pa,pa,pl (lo),pm ((show Leads I _ ⟨[(4,.p 5 0),(7,.p 14 0)],[(13,some ⟨103,some (9,L.length),Ad ((K).map (Al true))⟩),(5,some ⟨46,none,[.z,.o false,.i 0]⟩),(14,some ⟨46,none,[.sl 13,.o true,.i x.cost]⟩)],300⟩ ⟨[(4,.p 5 0),(7,.p 14 0)],[(2,some ⟨103,some (9,L.length),Ad ((K).map (Al true))⟩),(5,some ⟨46,none,[.z,.o false,.i 0]⟩),(14,some ⟨46,none,[.sl 2,.o true,.i x.cost]⟩)],300⟩ from AN [(2,13)] ⟨rfl,TVle.refl,rfl,TVle.refl,trivial⟩ ⟨rfl,rfl,rfl,ILe.refl,rfl,rfl,rfl,ILe.refl,rfl,rfl,rfl,ILe.refl,trivial⟩))]
       ·exact sm 250 [po (va),pa,pom [] (hco),pk (B0 3 x.node 0),pk (As 3 x.node (L.length:Nat)),pk (Af 3 x.kind 1),pk (Af 3 x.kind 2),pk (Ak 3 x.kind 3),po (hc3),pa,pa,pl (lo),pm ((show Leads I _ ⟨[(4,.p 5 0),(7,.p 14 0)],[(13,some ⟨103,some (9,L.length),Ad ((K).map (Al true))⟩),(5,some ⟨46,none,[.z,.o false,.i 0]⟩),(14,some ⟨46,none,[.sl 13,.o true,.i x.cost]⟩)],300⟩ ⟨[(4,.p 5 0),(7,.p 14 0)],[(2,some ⟨103,some (9,L.length),Ad ((K).map (Al true))⟩),(5,some ⟨46,none,[.z,.o false,.i 0]⟩),(14,some ⟨46,none,[.sl 2,.o true,.i x.cost]⟩)],300⟩ from AN [(2,13)] ⟨rfl,TVle.refl,rfl,TVle.refl,trivial⟩ ⟨rfl,rfl,rfl,ILe.refl,rfl,rfl,rfl,ILe.refl,rfl,rfl,rfl,ILe.refl,trivial⟩))]
     | true =>
      by_cases g3:x.cost < z
      ·simp only[g3,or_true,if_true] at lo ⊢
       generalize clL L true x.cost=K at *;by_cases g1:x.node < 0
       ·exact sm 250 [po (va),pa,pom [] (hco),pk (Cu 3 x.node 0),pk (Af 3 x.kind 1),pk (Af 3 x.kind 2),pk (Ak 3 x.kind 3),po (hc3),pa,pa,pk (As 3 x.cost z),pl (lo),pm ((show Leads I _ ⟨[(4,.p 5 0),(7,.p 14 0)],[(13,some ⟨103,some (9,L.length),Ad ((K).map (Al true))⟩),(5,some ⟨46,none,[.z,.o false,.i 0]⟩),(14,some ⟨46,none,[.sl 13,.o true,.i x.cost]⟩)],300⟩ ⟨[(4,.p 5 0),(7,.p 14 0)],[(2,some ⟨103,some (9,L.length),Ad ((K).map (Al true))⟩),(5,some ⟨46,none,[.z,.o false,.i 0]⟩),(14,some ⟨46,none,[.sl 2,.o true,.i x.cost]⟩)],300⟩ from AN [(2,13)] ⟨rfl,TVle.refl,rfl,TVle.refl,trivial⟩ ⟨rfl,rfl,rfl,ILe.refl,rfl,rfl,rfl,ILe.refl,rfl,rfl,rfl,ILe.refl,trivial⟩))]
       ·by_cases g2:(L.length:Int)≤x.node
        ·exact sm 250 [po (va),pa,pom [] (hco),pk (B0 3 x.node 0),pk (Aj 3 x.node (L.length:Nat)),pk (Af 3 x.kind 1),pk (Af 3 x.kind 2),pk (Ak 3 x.kind 3),po (hc3),pa,pa,pk (As 3 x.cost z),pl (lo),pm ((show Leads I _ ⟨[(4,.p 5 0),(7,.p 14 0)],[(13,some ⟨103,some (9,L.length),Ad ((K).map (Al true))⟩),(5,some ⟨46,none,[.z,.o false,.i 0]⟩),(14,some ⟨46,none,[.sl 13,.o true,.i x.cost]⟩)],300⟩ ⟨[(4,.p 5 0),(7,.p 14 0)],[(2,some ⟨103,some (9,L.length),Ad ((K).map (Al true))⟩),(5,some ⟨46,none,[.z,.o false,.i 0]⟩),(14,some ⟨46,none,[.sl 2,.o true,.i x.cost]⟩)],300⟩ from AN [(2,13)] ⟨rfl,TVle.refl,rfl,TVle.refl,trivial⟩ ⟨rfl,rfl,rfl,ILe.refl,rfl,rfl,rfl,ILe.refl,rfl,rfl,rfl,ILe.refl,trivial⟩))]
        ·exact sm 250 [po (va),pa,pom [] (hco),pk (B0 3 x.node 0),pk (As 3 x.node (L.length:Nat)),pk (Af 3 x.kind 1),pk (Af 3 x.kind 2),pk (Ak 3 x.kind 3),po (hc3),pa,pa,pk (As 3 x.cost z),pl (lo),pm ((show Leads I _ ⟨[(4,.p 5 0),(7,.p 14 0)],[(13,some ⟨103,some (9,L.length),Ad ((K).map (Al true))⟩),(5,some ⟨46,none,[.z,.o false,.i 0]⟩),(14,some ⟨46,none,[.sl 13,.o true,.i x.cost]⟩)],300⟩ ⟨[(4,.p 5 0),(7,.p 14 0)],[(2,some ⟨103,some (9,L.length),Ad ((K).map (Al true))⟩),(5,some ⟨46,none,[.z,.o false,.i 0]⟩),(14,some ⟨46,none,[.sl 2,.o true,.i x.cost]⟩)],300⟩ from AN [(2,13)] ⟨rfl,TVle.refl,rfl,TVle.refl,trivial⟩ ⟨rfl,rfl,rfl,ILe.refl,rfl,rfl,rfl,ILe.refl,rfl,rfl,rfl,ILe.refl,trivial⟩))]
      ·simp only[g3,or_false,Bool.true_eq_false,if_false] at lo ⊢
       generalize clL L true z=K at *;by_cases g1:x.node < 0
       ·exact sm 250 [po (va),pa,pom [] (hco),pk (Cu 3 x.node 0),pk (Af 3 x.kind 1),pk (Af 3 x.kind 2),pk (Ak 3 x.kind 3),po (hc3),pa,pa,pk (Aj 3 x.cost z),pl (lo),pm ((show Leads I _ ⟨[(4,.p 5 0),(7,.p 14 0)],[(13,some ⟨103,some (9,L.length),Ad ((K).map (Al true))⟩),(5,some ⟨46,none,[.z,.o false,.i 0]⟩),(14,some ⟨46,none,[.sl 13,.o true,.i z]⟩)],300⟩ ⟨[(4,.p 5 0),(7,.p 14 0)],[(2,some ⟨103,some (9,L.length),Ad ((K).map (Al true))⟩),(5,some ⟨46,none,[.z,.o false,.i 0]⟩),(14,some ⟨46,none,[.sl 2,.o true,.i z]⟩)],300⟩ from AN [(2,13)] ⟨rfl,TVle.refl,rfl,TVle.refl,trivial⟩ ⟨rfl,rfl,rfl,ILe.refl,rfl,rfl,rfl,ILe.refl,rfl,rfl,rfl,ILe.refl,trivial⟩))]
       ·by_cases g2:(L.length:Int)≤x.node
        ·exact sm 250 [po (va),pa,pom [] (hco),pk (B0 3 x.node 0),pk (Aj 3 x.node (L.length:Nat)),pk (Af 3 x.kind 1),pk (Af 3 x.kind 2),pk (Ak 3 x.kind 3),po (hc3),pa,pa,pk (Aj 3 x.cost z),pl (lo),pm ((show Leads I _ ⟨[(4,.p 5 0),(7,.p 14 0)],[(13,some ⟨103,some (9,L.length),Ad ((K).map (Al true))⟩),(5,some ⟨46,none,[.z,.o false,.i 0]⟩),(14,some ⟨46,none,[.sl 13,.o true,.i z]⟩)],300⟩ ⟨[(4,.p 5 0),(7,.p 14 0)],[(2,some ⟨103,some (9,L.length),Ad ((K).map (Al true))⟩),(5,some ⟨46,none,[.z,.o false,.i 0]⟩),(14,some ⟨46,none,[.sl 2,.o true,.i z]⟩)],300⟩ from AN [(2,13)] ⟨rfl,TVle.refl,rfl,TVle.refl,trivial⟩ ⟨rfl,rfl,rfl,ILe.refl,rfl,rfl,rfl,ILe.refl,rfl,rfl,rfl,ILe.refl,trivial⟩))]
        ·exact sm 250 [po (va),pa,pom [] (hco),pk (B0 3 x.node 0),pk (As 3 x.node (L.length:Nat)),pk (Af 3 x.kind 1),pk (Af 3 x.kind 2),pk (Ak 3 x.kind 3),po (hc3),pa,pa,pk (Aj 3 x.cost z),pl (lo),pm ((show Leads I _ ⟨[(4,.p 5 0),(7,.p 14 0)],[(13,some ⟨103,some (9,L.length),Ad ((K).map (Al true))⟩),(5,some ⟨46,none,[.z,.o false,.i 0]⟩),(14,some ⟨46,none,[.sl 13,.o true,.i z]⟩)],300⟩ ⟨[(4,.p 5 0),(7,.p 14 0)],[(2,some ⟨103,some (9,L.length),Ad ((K).map (Al true))⟩),(5,some ⟨46,none,[.z,.o false,.i 0]⟩),(14,some ⟨46,none,[.sl 2,.o true,.i z]⟩)],300⟩ from AN [(2,13)] ⟨rfl,TVle.refl,rfl,TVle.refl,trivial⟩ ⟨rfl,rfl,rfl,ILe.refl,rfl,rfl,rfl,ILe.refl,rfl,rfl,rfl,ILe.refl,trivial⟩))]
   ·rw[if_neg k3] at hc;omega
theorem UY (L:List Nd)(f:Bool)(z:Int)(hl:L.length≤1000000000)(x:Ch):Sp Tryz.prog I 29 [trT c L f z,chT c' x] (.tu [trT true (apS L f z x).1 (apS L f z x).2.1 (apS L f z x).2.2,ci (apC L f z x)]):=by
 by_cases h:tvc L f z=0
 ·have e:apC L f z x=chE L x:=by unfold apC;rw[if_neg (fun hh=>hh h)]
  unfold apS;rw[e];by_cases hc:chE L x=0
  ·rw[if_pos hc,hc]
   exact (UZ (I:=I) (c:=c) (c':=c') L f z x h hc).freeze (by rw[List.length_map]) OL rfl
  ·rw[if_neg hc]
   exact Sp.errT ((Qx (I:=I) (c:=c) (c':=c') L f z x h hc).sp rfl)
 ·have e:apC L f z x=tvc L f z:=by unfold apC;rw[if_pos h]
  unfold apS;rw[e,if_neg h];have va:=FM (I:=I) (c:=c) L f z hl;rw[RR] at va;refine Sp.errT ?_;generalize tvc L f z=r at *;exact sr 250 [po (va),pk (AR 32 r 0)]
end
def cnt (L:List Nd):Nat→Nat→Int
 | 0,_=>0
 | m+1,i=>if pp L m=i then cnt L m i+2 else cnt L m i
theorem P8 {L:List Nd}{M:Nat}(hn:L.length=2*M+1)(hp : ∀ m,m < M→prB L m=true) : ∀ m,m≤M → ∀ i,iat (clt L m) i=cnt L m i
 | 0,_,i=>by rw[clt,F7,cnt]
 | m+1,hm,i=>by rw[Ka hn hp (by omega),cnt,P8 hn hp m (by omega) i]
theorem R5 (L:List Nd) : ∀ m i,cnt L m i % 2=0
 | 0,_=>rfl
 | m+1,i=>by
  rw[cnt];have:=R5 L m i;split <;> omega
theorem Jm (L:List Nd) : ∀ m i,0≤cnt L m i
 | 0,_=>Int.le_refl _
 | m+1,i=>by
  rw[cnt];have:=Jm L m i;split <;> omega
theorem R4 {L:List Nd} : ∀ {m i:Nat},cnt L m i=0 → ∀ k,k < m→pp L k≠i
 | 0,_,_,k,hk=>by omega
 | m+1,i,h,k,hk=>by
  rw[cnt] at h;have:=Jm L m i;by_cases hp:pp L m=i
  ·rw[if_pos hp] at h;omega
  ·rw[if_neg hp] at h
   by_cases hkm:k=m
   ·rw[hkm];exact hp
   ·exact R4 h k (by omega)
theorem R3 {L:List Nd} : ∀ {m i:Nat},(∀ k,k < m→pp L k≠i)→cnt L m i=0
 | 0,_,_=>rfl
 | m+1,i,h=>by rw[cnt,if_neg (h m (by omega))];exact R3 fun k hk=>h k (by omega)
theorem KN {L L':List Nd} : ∀ {m i:Nat},(∀ k,k < m→pp L k=pp L' k)→cnt L m i=cnt L' m i
 | 0,_,_=>rfl
 | m+1,i,h=>by rw[cnt,cnt,h m (by omega),KN fun k hk=>h k (by omega)]
structure Shp (L:List Nd) (M:Nat):Prop where
 len:L.length=2*M+1
 rpar:(tat L 0).par = -1
 rdec:dcn (tat L 0)=(0,0,false)
 prs : ∀ m,m < M→prB L m=true
 dep : ∀ i,i < L.length→(Bh L i).length≤32
 twn : ∀ i,i < L.length→G5 (Bh L i)
 two : ∀ i,i < L.length→cnt L M i≤2
 spl : ∀ i,i < L.length→((tat L i).st=1↔cnt L M i=2)
 bnd : ∀ m,m < M→(tat L (pp L m)).q≤(tat L (2*m+1)).q∧(tat L (pp L m)).q≤(tat L (2*m+2)).q
theorem Tq {L:List Nd}:shB L=true ↔ ∃ M,Shp L M:=by
 rw[Tr];constructor
 ·rintro ⟨h1,h2⟩
  unfold rpB rtB at h1;simp only[Bool.and_eq_true,List.all_eq_true,List.mem_range,decide_eq_true_eq,Bn] at h1;obtain ⟨⟨⟨⟨a1,a2⟩,a3⟩,a4⟩,a5⟩:=h1;have hn:L.length=2*(L.length / 2)+1:=by omega
  have ho:=fun i hi=>(L3 hn (i:=i) hi).1 (a5 i (Nat.zero_le _) (by omega))
  have hc:=P8 hn a4 _ (Nat.le_refl _);have hb:=(Jn hn a4).1 fun j hj=>Bn.1 h2 j (Nat.zero_le _) (by omega)
  refine ⟨L.length / 2,hn,a1,a2,a4,fun i hi=>(ho i hi).2.2.1,fun i hi=>(ho i hi).2.2.2,fun i hi => ?_,fun i hi => ?_,hb⟩
  ·rw[←hc];exact (ho i hi).1
  ·rw[←hc];exact (ho i hi).2.1
 ·rintro ⟨M,h⟩
  have hM2:L.length / 2=M:=by have:=h.len;omega
  have hc:=P8 h.len h.prs _ (Nat.le_refl _);refine ⟨?_,?_⟩
  ·unfold rpB rtB
   simp only[Bool.and_eq_true,List.all_eq_true,List.mem_range,decide_eq_true_eq,Bn,hM2];refine ⟨⟨⟨⟨h.rpar,h.rdec⟩,by have:=h.len;omega⟩,h.prs⟩,fun i _ hi => ?_⟩
   have hi:i < L.length:=by omega
   exact (L3 h.len hi).2 ⟨by rw[hc];exact h.two i hi,by rw[hc];exact h.spl i hi,h.dep i hi,h.twn i hi⟩
  ·rw[Bn]
   exact fun j _ hj=>(Jn h.len h.prs).2 h.bnd j (by omega)
structure Vld (L:List Nd) (f:Bool) (z:Int) (M:Nat):Prop where
 shp:Shp L M
 big:M≤999
 cst:BS z=true
 zer:z=0∨f=true
 ok : ∀ i,i < L.length→okc (tat L i).q=true
 st0 : ∀ i,i < L.length→0≤(tat L i).st∧(tat L i).st≤2
 cl : ∀ i,i < L.length→(tat L i).st≠1→((tat L i).st=2↔FL f z (tat L i).q=true)
theorem O9 {L:List Nd}{f:Bool}{z:Int}:tvc L f z=0 ↔ ∃ M,Vld L f z M:=by
 constructor
 ·intro h
  obtain ⟨h1,h2,h3,h4,h5,h6,h7⟩:=LS h;obtain ⟨M,hs⟩:=Tq.1 h6;have hl:=hs.len;refine ⟨M,hs,by omega,h3,h4,fun i hi=>Th h hi,fun i hi => ?_,fun i hi hne => ?_⟩
  ·have:=Bn.1 h5 i (Nat.zero_le _) (by omega)
   unfold CE at this;split at this
   ·omega
   ·omega
  ·have:=Bn.1 h7 i (Nat.zero_le _) (by omega)
   unfold UL at this;rw[if_neg hne] at this;by_cases he:decide ((tat L i).st=2)=FL f z (tat L i).q
   ·rw[←he];simp
   ·rw[if_neg he] at this;omega
 ·rintro ⟨M,h⟩
  have hl:=h.shp.len;have hb:=h.big;unfold tvc;rw[if_neg (by omega),if_neg (by rw[h.cst];rcases h.zer with hz | hf <;> simp[*])]
  have h5:AT (CE L) L.length 0=0:=Bn.2 fun i _ hi=>by
   have:=h.st0 i (by omega)
   unfold CE;rw[if_neg (by omega),h.ok i (by omega)];rfl
  rw[if_neg (fun hh=>hh h5),Tq.2 ⟨M,h.shp⟩,if_neg (by decide)]
  exact Bn.2 fun i _ hi=>by
   have hc:=h.cl i (by omega)
   unfold UL;by_cases hne:(tat L i).st=1
   ·rw[if_pos hne]
   ·rw[if_neg hne]
    have:=hc hne;rw[if_pos (by cases hs:FL f z (tat L i).q <;> simp[hs] at this ⊢ <;> exact this)]
theorem PP {L L':List Nd}(i:Nat):(∀ j,j≤i→(tat L j).par=(tat L' j).par∧dcn (tat L j)=dcn (tat L' j))→CY L i=CY L' i:=by
 induction i using Nat.strongRecOn with
 | _ i ih =>
  intro h;have hi:=(h i (Nat.le_refl _)).1;by_cases hc:0 < i∧(tat L i).par.toNat < i
  ·have e1:CY L i=dcn (tat L i)::CY L (tat L i).par.toNat:=by unfold CY;rw[Ki,dif_pos hc,List.map_cons]
   have e2:CY L' i=dcn (tat L' i)::CY L' (tat L' i).par.toNat:=by unfold CY;rw[Ki,dif_pos (by rw[←hi];exact hc),List.map_cons]
   rw[e1,e2,(h i (Nat.le_refl _)).2,←hi,ih _ hc.2 fun j hj=>h j (by omega)]
  ·have e1:CY L i=[]:=by unfold CY;rw[Ki,dif_neg hc];rfl
   have e2:CY L' i=[]:=by unfold CY;rw[Ki,dif_neg (by rw[←hi];exact hc)];rfl
   rw[e1,e2]
theorem Lb {L L':List Nd}{i:Nat}(h : ∀ j,j≤i→(tat L j).par=(tat L' j).par∧dcn (tat L j)=dcn (tat L' j)):Bh L i=Bh L' i:=by unfold Bh;rw[PP i h]
theorem NL {L L':List Nd}{m:Nat}(h1:(tat L (2*m+1)).par=(tat L' (2*m+1)).par∧dcn (tat L (2*m+1))=dcn (tat L' (2*m+1)))(h2:(tat L (2*m+2)).par=(tat L' (2*m+2)).par∧dcn (tat L (2*m+2))=dcn (tat L' (2*m+2))):prB L m=prB L' m:=by
 have e1:=h1.2;unfold dcn at e1;injection e1 with f1 f2;injection f2 with f2 f3;unfold prB;rw[h1.1,h2.1,h1.2,h2.2,f1,f2]
theorem Q4 {L L':List Nd}{m:Nat}(h1:(tat L (2*m+1)).par=(tat L' (2*m+1)).par):pp L m=pp L' m:=by unfold pp;rw[h1]
theorem Shp.same {L L':List Nd}{M:Nat}(h:Shp L M)(hl:L'.length=L.length)(hd : ∀ j,j < L.length→(tat L j).par=(tat L' j).par∧dcn (tat L j)=dcn (tat L' j))(hs : ∀ j,j < L.length→((tat L' j).st=1↔(tat L j).st=1))
  (hb : ∀ m,m < M→(tat L' (pp L m)).q≤(tat L' (2*m+1)).q∧(tat L' (pp L m)).q≤(tat L' (2*m+2)).q):Shp L' M:=by
 have hn:=h.len;have hpp : ∀ m,m < M→pp L m=pp L' m:=fun m hm=>Q4 (hd _ (by omega)).1
 have hpd : ∀ i,i < L.length→Bh L i=Bh L' i:=fun i hi=>Lb fun j hj=>hd j (by omega)
 have hcn : ∀ i,cnt L M i=cnt L' M i:=fun i=>KN hpp
 refine ⟨by omega,by rw[←(hd 0 (by omega)).1];exact h.rpar,by rw[←(hd 0 (by omega)).2];exact h.rdec,fun m hm => ?_,fun i hi => ?_,fun i hi => ?_,fun i hi => ?_,fun i hi => ?_,fun m hm => ?_⟩
 ·rw[←NL (hd _ (by omega)) (hd _ (by omega))];exact h.prs m hm
 ·rw[←hpd i (by omega)];exact h.dep i (by omega)
 ·rw[←hpd i (by omega)];exact h.twn i (by omega)
 ·rw[←hcn];exact h.two i (by omega)
 ·rw[←hcn,hs i (by omega)];exact h.spl i (by omega)
 ·rw[←hpp m hm];exact hb m hm
theorem Shp.leaf {L:List Nd}{M i:Nat}(h:Shp L M)(hi:i < L.length)(hs:(tat L i).st≠1):cnt L M i=0:=by
 have h1:=R5 L M i;have h2:=Jm L M i;have h3:=h.two i hi;have h4:=mt (h.spl i hi).2 hs;omega
theorem Gg {L:List Nd}{f:Bool}{z:Int}{i:Nat}(h:i < L.length):tat (clL L f z) i=clN f z (tat L i):=by
 unfold tat clL;rw[List.getD_eq_getElem?_getD,List.getD_eq_getElem?_getD,List.getElem?_map,List.getElem?_eq_getElem h];rfl
theorem Aa3 (L:List Nd)(f:Bool)(z:Int):(clL L f z).length=L.length:=List.length_map _
theorem Aa1 (f:Bool)(z:Int)(x:Nd):(clN f z x).par=x.par:=by unfold clN;split <;> rfl
theorem Aa2 (f:Bool)(z:Int)(x:Nd):dcn (clN f z x)=dcn x:=by unfold clN;split <;> rfl
theorem R6 (f:Bool)(z:Int)(x:Nd):(clN f z x).q=x.q:=by unfold clN;split <;> rfl
theorem PC (f:Bool)(z:Int)(x:Nd):(clN f z x).st=if x.st=0∧FL f z x.q=true then 2 else x.st:=by unfold clN;split <;> rfl
structure Mid (L:List Nd) (f:Bool) (z:Int) (M:Nat):Prop where
 shp:Shp L M
 big:M≤999
 cst:BS z=true
 zer:z=0∨f=true
 ok : ∀ i,i < L.length→okc (tat L i).q=true
 st0 : ∀ i,i < L.length→0≤(tat L i).st∧(tat L i).st≤2
 cl : ∀ i,i < L.length→(tat L i).st=2→FL f z (tat L i).q=true
theorem Mid.vld {L:List Nd}{f:Bool}{z:Int}{M:Nat}(h:Mid L f z M):Vld (clL L f z) f z M:=by
 have hl:=Aa3 L f z;refine ⟨h.shp.same hl (fun j hj => ?_) (fun j hj => ?_) (fun m hm => ?_),h.big,h.cst,h.zer,fun i hi => ?_,fun i hi => ?_,fun i hi hne => ?_⟩
 ·rw[Gg hj,Aa1,Aa2];exact ⟨rfl,rfl⟩
 ·rw[Gg hj,PC]
  split
  ·rename_i hc;constructor <;> intro hh <;> omega
  ·exact Iff.rfl
 ·have hn:=h.shp.len
  obtain ⟨p1,p2,p3,_,_⟩:=EB (h.shp.prs m hm);rw[Gg (by omega),Gg (by omega),Gg (by omega),R6,R6,R6]
  exact h.shp.bnd m hm
 ·rw[hl] at hi;rw[Gg hi,R6];exact h.ok i hi
 ·rw[hl] at hi
  have:=h.st0 i hi;rw[Gg hi,PC];split <;> omega
 ·rw[hl] at hi
  have h0:=h.st0 i hi;have hc:=h.cl i hi;rw[Gg hi,PC] at hne;rw[Gg hi,PC,R6];by_cases hh:(tat L i).st=0∧FL f z (tat L i).q=true
  ·rw[if_pos hh];exact ⟨fun _=>hh.2,fun _=>rfl⟩
  ·rw[if_neg hh] at hne ⊢
   constructor
   ·exact hc
   ·intro hs
    by_cases h2:(tat L i).st=0
    ·exact absurd ⟨h2,hs⟩ hh
    ·omega
theorem UK {z z':Int}{q:Rat}(h:FL true z q=true)(hz:z'≤z):FL true z' q=true:=by
 unfold FL at h ⊢;simp only[Bool.true_and,Bool.and_eq_true,decide_eq_true_eq] at h ⊢;exact ⟨h.1,by omega⟩
theorem Vld.mid {L:List Nd}{f:Bool}{z:Int}{M:Nat}(h:Vld L f z M):Mid L f z M:=⟨h.shp,h.big,h.cst,h.zer,h.ok,h.st0,fun i hi hs=>(h.cl i hi (by omega)).1 hs⟩
theorem AbC {L:List Nd}{x:Ch}(h:raE L x=0) : ∃ i:Nat,x.node=(i:Int)∧i < L.length∧okc x.q=true∧(tat L i).st=0:=by
 unfold raE at h;by_cases h1:x.node < 0∨(L.length:Int)≤x.node
 ·rw[if_pos h1] at h;omega
 ·rw[if_neg h1] at h
  cases h3:okc x.q with
  | false=>rw[h3,if_pos rfl] at h;omega
  | true =>
   rw[h3,if_neg (by decide)] at h
   refine ⟨x.node.toNat,by omega,by omega,rfl,?_⟩
   by_cases h4:(tat L x.node.toNat).st=0
   ·exact h4
   ·rw[if_pos h4] at h;omega
theorem Vb {L:List Nd}{f:Bool}{z:Int}{M:Nat}{x:Ch}(h:Vld L f z M)(hc:raE L x=0):Mid (raL L x) f z M:=by
 obtain ⟨i,hni,hi,hok,hst⟩:=AbC hc;have ht:x.node.toNat=i:=by omega
 unfold raL;rw[ht];by_cases hq:(tat L i).q < x.q
 ·rw[if_pos hq]
  have hl:(L.set i ⟨(tat L i).par,(tat L i).fst,(tat L i).nxt,(tat L i).tog,x.q,(tat L i).st⟩).length=L.length:=List.length_set;have hat:=fun j=>OC (L:=L) (j:=j) (y:=⟨(tat L i).par,(tat L i).fst,(tat L i).nxt,(tat L i).tog,x.q,(tat L i).st⟩) hi
  generalize L.set i ⟨(tat L i).par,(tat L i).fst,(tat L i).nxt,(tat L i).tog,x.q,(tat L i).st⟩=L' at *;have hd : ∀ j,(tat L j).par=(tat L' j).par∧dcn (tat L j)=dcn (tat L' j)∧(tat L' j).st=(tat L j).st∧(j≠i→(tat L' j).q=(tat L j).q)∧(tat L j).q≤(tat L' j).q:=fun j=>by
   rw[hat j];by_cases hij:i=j
   ·subst hij;rw[if_pos rfl];exact ⟨rfl,rfl,rfl,fun h=>absurd rfl h,by show (tat L i).q≤x.q;grind⟩
   ·rw[if_neg hij];exact ⟨rfl,rfl,rfl,fun _=>rfl,by grind⟩
  have hi2:=hat i;rw[if_pos rfl] at hi2;have hleaf:=R4 (h.shp.leaf hi (by omega))
  refine ⟨h.shp.same hl (fun j _=>⟨(hd j).1,(hd j).2.1⟩) (fun j _=>by rw[(hd j).2.2.1]) (fun m hm => ?_),h.big,h.cst,h.zer,fun j hj => ?_,fun j hj => ?_,fun j hj hs => ?_⟩
  ·have:=h.shp.bnd m hm
   rw[(hd _).2.2.2.1 (hleaf m hm)];have a:=(hd (2*m+1)).2.2.2.2;have b:=(hd (2*m+2)).2.2.2.2;exact ⟨by grind,by grind⟩
  ·by_cases hij:j=i
   ·subst hij;rw[hi2];exact hok
   ·rw[(hd j).2.2.2.1 hij];exact h.ok j (by omega)
  ·rw[(hd j).2.2.1];exact h.st0 j (by omega)
  ·rw[(hd j).2.2.1] at hs
   by_cases hij:j=i
   ·subst hij;omega
   ·rw[(hd j).2.2.2.1 hij];exact h.mid.cl j (by omega) hs
 ·rw[if_neg hq];exact h.mid
theorem XU {L:List Nd}{f:Bool}{z:Int}{M:Nat}{x:Ch}(h:Vld L f z M)(hc:fiE x=0):Mid L (fnF f z x).1 (fnF f z x).2 M:=by
 have hcost:BS x.cost=true:=by
  unfold fiE at hc;cases h1:BS x.cost with
  | true=>rfl
  | false=>rw[h1] at hc;exact absurd hc (by decide)
 have hm:=h.mid;unfold fnF;by_cases hf:f=false∨x.cost < z
 ·rw[if_pos hf]
  refine ⟨h.shp,h.big,hcost,.inr rfl,h.ok,h.st0,fun i hi hs => ?_⟩
  have hs2:=hm.cl i hi hs;cases f with
  | false=>exact absurd hs2 (by unfold FL;simp)
  | true=>exact UK hs2 (show x.cost≤z from hf.elim (fun hh=>by cases hh) (fun hh=>by omega))
 ·rw[if_neg hf];exact hm
theorem Abx {L:List Nd}{x:Ch}(h:spE L x=0) : ∃ i:Nat,x.node=(i:Int)∧i < L.length∧0≤x.fst∧0≤x.nxt∧x.fst≠x.nxt∧(tat L i).st=0∧L.length+2≤2000∧(Bh L i).length < 32∧MN L i x.fst x.nxt=false:=by
 unfold spE at h;by_cases h0:x.node < 0∨(L.length:Int)≤x.node∨x.fst < 0∨x.nxt < 0∨x.fst=x.nxt
 ·rw[if_pos h0] at h;omega
 ·rw[if_neg h0] at h
  obtain ⟨i,hni⟩ : ∃ i:Nat,x.node=(i:Int):=⟨x.node.toNat,by omega⟩
  have ht:x.node.toNat=i:=by omega
  rw[ht] at h;by_cases h4:(tat L i).st=0
  ·rw[if_neg (by simp[h4])] at h
   by_cases h7:2000 < L.length+2∨32≤(Bh L i).length
   ·rw[if_pos h7] at h;omega
   ·rw[if_neg h7] at h
    cases h9:MN L i x.fst x.nxt with
    | true=>rw[h9,if_pos rfl] at h;omega
    | false=>exact ⟨i,hni,by omega,by omega,by omega,by omega,h4,by omega,by omega,h9⟩
  ·rw[if_pos h4] at h;omega
theorem Abw {L:List Nd}{x:Ch}{i:Nat}(ht:x.node.toNat=i)(hi:i < L.length):(spL L x).length=L.length+2∧(∀ j,j < L.length→(tat (spL L x) j).par=(tat L j).par∧dcn (tat (spL L x) j)=dcn (tat L j)∧(tat (spL L x) j).q=(tat L j).q∧(tat (spL L x) j).st=if j=i then 1 else (tat L j).st)∧tat (spL L x) L.length=kid L x true∧tat (spL L x) (L.length+1)=kid L x false:=by
 have hm:=M0 L i;refine ⟨by unfold spL;rw[ht,List.length_append,hm];rfl,fun j hj => ?_,?_,?_⟩
 ·unfold spL
  rw[ht,Wj (by omega)]
  unfold FV;rw[OC hi];by_cases hij:i=j
  ·subst hij;rw[if_pos rfl,if_pos rfl];exact ⟨rfl,rfl,rfl,rfl⟩
  ·rw[if_neg hij,if_neg (Ne.symm hij)];exact ⟨rfl,rfl,rfl,rfl⟩
 ·unfold tat spL
  rw[ht,List.getD_eq_getElem?_getD,List.getElem?_append_right (by omega),hm,Nat.sub_self];rfl
 ·unfold tat spL
  rw[ht,List.getD_eq_getElem?_getD,List.getElem?_append_right (by omega),hm,show L.length+1 - L.length=1 by omega];rfl
theorem UG {L:List Nd}{f:Bool}{z:Int}{M:Nat}{x:Ch}(h:Vld L f z M)(hc:spE L x=0):Mid (spL L x) f z (M+1):=by
 obtain ⟨i,hni,hi,g1,g2,g3,hst,hlen,hdep,hdec⟩:=Abx hc;have ht:x.node.toNat=i:=by omega
 obtain ⟨hl,hat,ka,kb⟩:=Abw ht hi;have hn:=h.shp.len;have hS:=h.shp;have hleaf:=h.shp.leaf hi (by omega)
 unfold kid at ka kb;rw[ht] at ka kb;generalize spL L x=L' at *;rw[hn] at ka kb;have hpd : ∀ j,j < L.length→Bh L j=Bh L' j:=fun j hj=>Lb fun k hk=>⟨(hat k (by omega)).1.symm,(hat k (by omega)).2.1.symm⟩
 have hpp : ∀ m,m < M→pp L m=pp L' m:=fun m hm=>Q4 (hat _ (by omega)).1.symm
 have ppM:pp L' M=i:=by unfold pp;rw[ka];exact ht
 have pa:(tat L' (2*M+1)).par=(i:Int):=by rw[ka];exact hni
 have pb:(tat L' (2*M+1+1)).par=(i:Int):=by rw[kb];exact hni
 have pathA:Bh L' (2*M+1)=Bh L i++[(x.fst,x.nxt,true)]:=by
  rw[Cs pa (by omega),←hpd i hi,ka];rfl
 have Q5:Bh L' (2*M+1+1)=Bh L i++[(x.fst,x.nxt,false)]:=by
  rw[Cs pb (by omega),←hpd i hi,kb];rfl
 have three : ∀ j,j < L'.length→j < L.length∨j=2*M+1∨j=2*M+1+1:=fun j hj=>by omega
 have cnt' : ∀ j,cnt L' (M+1) j=if i=j then cnt L M j+2 else cnt L M j:=fun j=>by
  rw[cnt,ppM,←KN (L:=L) (L':=L') hpp]
 have cntOut : ∀ j,2*M+1≤j→cnt L M j=0:=fun j hj=>R3 fun k hk=>by
  have:=(EB (hS.prs k hk)).2.2.1;omega
 refine ⟨⟨by omega,?_,?_,fun m hm => ?_,fun j hj => ?_,fun j hj => ?_,fun j hj => ?_,fun j hj => ?_,fun m hm => ?_⟩,by omega,h.cst,h.zer,fun j hj => ?_,fun j hj => ?_,fun j hj hs => ?_⟩
 ·rw[(hat 0 (by omega)).1];exact hS.rpar
 ·rw[(hat 0 (by omega)).2.1];exact hS.rdec
 ·by_cases hmM:m < M
  ·rw[←NL ⟨(hat _ (by omega)).1.symm,(hat _ (by omega)).2.1.symm⟩ ⟨(hat _ (by omega)).1.symm,(hat _ (by omega)).2.1.symm⟩];exact hS.prs m hmM
  ·have:m=M:=by omega
   subst this;unfold prB;rw[ka,show 2*m+2=2*m+1+1 from rfl,kb];simp[dcn,g1,g2,g3];omega
 ·rcases three j hj with hj | rfl | rfl
  ·rw[←hpd j hj];exact hS.dep j hj
  ·rw[pathA,List.length_append];show _+1≤32;omega
  ·rw[Q5,List.length_append];show _+1≤32;omega
 ·have hd:=JX.1 hdec
  rcases three j hj with hj | rfl | rfl
  ·rw[←hpd j hj];exact hS.twn j hj
  ·rw[pathA,DQ];exact ⟨hS.twn i hi,hd⟩
  ·rw[Q5,DQ];exact ⟨hS.twn i hi,hd⟩
 ·rw[cnt']
  by_cases hij:i=j
  ·rw[if_pos hij,←hij,hleaf];omega
  ·rw[if_neg hij]
   rcases three j hj with hj | hj | hj
   ·exact hS.two j hj
   ·rw[cntOut j (by omega)];omega
   ·rw[cntOut j (by omega)];omega
 ·rw[cnt']
  by_cases hij:i=j
  ·rw[if_pos hij,←hij,hleaf,(hat i hi).2.2.2,if_pos rfl]
   exact ⟨fun _=>rfl,fun _=>rfl⟩
  ·rw[if_neg hij]
   rcases three j hj with hj | rfl | rfl
   ·rw[(hat j hj).2.2.2,if_neg (Ne.symm hij)];exact hS.spl j hj
   ·rw[cntOut _ (by omega),ka];constructor <;> intro hh <;> simp at hh
   ·rw[cntOut _ (by omega),kb];constructor <;> intro hh <;> simp at hh
 ·by_cases hmM:m < M
  ·have:=hS.bnd m hmM
   have p3:=(EB (hS.prs m hmM)).2.2.1;rw[←hpp m hmM,(hat _ (by omega)).2.2.1,(hat _ (by omega)).2.2.1,(hat _ (by omega)).2.2.1];exact this
  ·have:m=M:=by omega
   subst this;rw[ppM,ka,show 2*m+2=2*m+1+1 from rfl,kb,(hat i hi).2.2.1];exact ⟨by grind,by grind⟩
 ·rcases three j hj with hj | rfl | rfl
  ·rw[(hat j hj).2.2.1];exact h.ok j hj
  ·rw[ka];exact h.ok i hi
  ·rw[kb];exact h.ok i hi
 ·rcases three j hj with hj | rfl | rfl
  ·have:=h.st0 j hj
   rw[(hat j hj).2.2.2];split <;> omega
  ·rw[ka];exact ⟨Int.le_refl _,by show (0:Int)≤2;decide⟩
  ·rw[kb];exact ⟨Int.le_refl _,by show (0:Int)≤2;decide⟩
 ·rcases three j hj with hj | rfl | rfl
  ·rw[(hat j hj).2.2.2] at hs
   by_cases hij:j=i
   ·rw[if_pos hij] at hs;omega
   ·rw[if_neg hij] at hs
    rw[(hat j hj).2.2.1];exact h.mid.cl j hj hs
  ·rw[ka] at hs;cases hs
  ·rw[kb] at hs;cases hs
theorem Aa5 {L:List Nd}{f:Bool}{z:Int}{M:Nat}{x:Ch}(h:Vld L f z M)(hc:chE L x=0) : ∃ M',Vld (chS L f z x).1 (chS L f z x).2.1 (chS L f z x).2.2 M':=by
 unfold chE at hc;unfold chS chM;by_cases k1:x.kind=1
 ·rw[if_pos k1] at hc ⊢
  exact ⟨M,(Vb h hc).vld⟩
 ·rw[if_neg k1] at hc ⊢
  by_cases k2:x.kind=2
  ·rw[if_pos k2] at hc ⊢
   exact ⟨M+1,(UG h hc).vld⟩
  ·rw[if_neg k2] at hc ⊢
   by_cases k3:x.kind=3
   ·rw[if_pos k3] at hc
    exact ⟨M,(XU h hc).vld⟩
   ·rw[if_neg k3] at hc;omega
theorem Acu {L:List Nd}{f:Bool}{z:Int}{x:Ch}(h:tvc L f z=0)(hc:chE L x=0):tvc (chS L f z x).1 (chS L f z x).2.1 (chS L f z x).2.2=0:=by
 obtain ⟨M,hv⟩:=O9.1 h;exact O9.2 (Aa5 hv hc)
theorem Ac3 {L:List Nd}{f:Bool}{z:Int}{x:Ch}(hc:apC L f z x=0):tvc L f z=0∧chE L x=0∧apS L f z x=chS L f z x∧tvc (apS L f z x).1 (apS L f z x).2.1 (apS L f z x).2.2=0:=by
 have h0:tvc L f z=0:=by
  unfold apC at hc;by_cases h:tvc L f z=0
  ·exact h
  ·rw[if_pos h] at hc;exact hc
 have h1:chE L x=0:=by
  unfold apC at hc;rw[if_neg (fun h=>h h0)] at hc
  exact hc
 have e:apS L f z x=chS L f z x:=by unfold apS;rw[if_pos hc]
 exact ⟨h0,h1,e,by rw[e];exact Acu h0 h1⟩
theorem Xe {q:Rat}(h:okc q=true):Vld (Hn q) false 0 0:=by
 have z : ∀ i,i < (Hn q).length→i=0:=fun i hi=>by have:i < 1:=hi;omega
 refine ⟨⟨rfl,rfl,rfl,fun m hm=>by omega,fun i hi => ?_,fun i hi => ?_,fun i hi => ?_,fun i hi => ?_,fun m hm=>by omega⟩,by omega,by decide,.inl rfl,fun i hi => ?_,fun i hi => ?_,fun i hi hne => ?_⟩
 ·rw[z i hi,Dj];exact Nat.zero_le _
 ·rw[z i hi,Dj];exact List.Pairwise.nil
 ·rw[cnt];omega
 ·rw[z i hi,cnt];constructor <;> intro hh <;> cases hh
 ·rw[z i hi];exact h
 ·rw[z i hi];exact ⟨Int.le_refl _,by show (0:Int)≤2;decide⟩
 ·rw[z i hi]
  constructor
  ·intro hh;cases hh
  ·intro hh;unfold FL at hh;simp at hh
def BE (x m:Int):Int:=IntKind.i64.wrap ((BitVec.ofInt 64 x &&& BitVec.ofInt 64 m).toNat:Int)
def Ce (x:Int)(k:Nat):Int:=x.fdiv (2 ^ k)
theorem Dh (x m:Int)(h0:0≤m)(hm:m < 4611686018427387904):0≤BE x m∧BE x m≤m:=by
 obtain ⟨m,rfl⟩:=Int.eq_ofNat_of_zero_le h0;have h:(BitVec.ofInt 64 x &&& BitVec.ofInt 64 (m:Int)).toNat≤m:=by
  rw[BitVec.toNat_and];refine Nat.le_trans Nat.and_le_right ?_;rw[BitVec.ofInt_natCast,BitVec.toNat_ofNat];exact Nat.mod_le _ _
 unfold BE;generalize (BitVec.ofInt 64 x &&& BitVec.ofInt 64 (m:Int)).toNat=k at *;rw[IntWalk.i64_in _ ⟨by omega,by omega⟩]
 omega
section
variable {P:Program}
theorem CN (t:TypeId)(x y:Int):Be P (.bin .and t) [li x,li y] (li (BE x y)):=By (vs:=[.int .i64 x,.int .i64 y]) fun w=>by
 rfl
theorem Ff (t:TypeId)(x:Int)(k:Nat)(hk:k≤64:=by omega):Be P (.bin .shr t) [li x,BF (.int .u64 (k:Int))] (li (Ce x k)):=By (vs:=[.int .i64 x,.int .u64 (k:Int)]) fun w=>by
 have h : ¬ ((k:Int) < 0):=by omega
 simp[OpK.run,eqGuard,binOp,Op.shift,Ce,h,IntKind.bits,Nat.min_eq_left hk];exact (Int.fdiv_eq_ediv_of_nonneg _ (Int.le_of_lt (Int.pow_pos (by decide)))).symm
end
def atS (l:List Int)(i:Nat):Int:=if l.length=0 then BE (i:Int) 65535 else BE (iat l (i % l.length)) 65535+((i / l.length:Nat):Int)
def B9 (n:Int):Rat:=Rat.divInt (BE n 15 - 5) (1+BE (Ce n 4) 3)
theorem AbV {z:Int}(h : -100≤z)(h':z≤100):Lim 1 z:=by unfold Lim;omega
theorem Rf (n:Int):Lq (B9 n) 12:=by
 have h1:=Dh n 15 (by omega) (by omega)
 have h2:=Dh (Ce n 4) 3 (by omega) (by omega)
 unfold B9;exact ⟨(EZ (AbV (by omega) (by omega))).mono (by omega),(FW (AbV (by omega) (by omega)) (by omega)).mono (by omega),by omega⟩
theorem ZG {q:Rat}(h:Lim 1 q.num):okc q=true:=by
 have:=Aay h;unfold Lim at this;unfold okc;exact decide_eq_true ⟨by omega,by omega⟩
theorem XO (n:Int):okc (B9 n)=true:=by
 have h1:=Dh n 15 (by omega) (by omega)
 have h2:=Dh (Ce n 4) 3 (by omega) (by omega)
 exact ZG (EZ (AbV (by omega) (by omega)))
section
variable {I:WInv}{c c':Bool}
theorem TS (n:Int):Sp Tryz.prog I 27 [ci n] (tfc true 12 (B9 n)):=by
 have h1:=Dh n 15 (by omega) (by omega)
 have h2:=Dh (Ce n 4) 3 (by omega) (by omega)
 have e:B9 n=(((BE n 15 - 5:Int)):Rat) / (((1+BE (Ce n 4) 3:Int)):Rat):=Rat.divInt_eq_div _ _;have hdiv:Sp Tryz.prog I 68 [fc true 2 (((BE n 15 - 5:Int)):Rat),fc true 2 (((1+BE (Ce n 4) 3:Int)):Rat)] (tfc true 12 (B9 n)):=by
  have h:=(Acm (I:=I) (c:=true) (c':=true) (p:=(((BE n 15 - 5:Int)):Rat)) (q:=(((1+BE (Ce n 4) 3:Int)):Rat))).wk (args':=[fc true 2 (((BE n 15 - 5:Int)):Rat),fc true 2 (((1+BE (Ce n 4) 3:Int)):Rat)]) ⟨GB (by omega),GB (by omega),trivial⟩
  rw[←e] at h;exact h.rs (Aac (Rf n)).tv
 exact sr 13 [pk (CN 3 n 15),pk (Ov 3 (BE n 15) 5 ⟨by omega,by omega⟩),po (Je (I:=I) ((BE n 15) - 5) ⟨by omega,by omega⟩),pk (Ff 3 n 4),pk (CN 3 (Ce n 4) 3),pk (Az 3 1 (BE (Ce n 4) 3) ⟨by omega,by omega⟩),po (Je (I:=I) (1+(BE (Ce n 4) 3)) ⟨by omega,by omega⟩),po (hdiv)]
theorem YT (l:List Int)(i:Nat)(hi:i≤100000)(hl:l.length≤35184372087808):Sp Tryz.prog I 21 [.t (slI 1 (l.map Ag)),ci (i:Int)] (li (atS l i)):=by
 unfold atS;by_cases h0:l.length=0
 ·rw[if_pos h0]
  exact sr 23 [pk (AK 40 3 3 1 ((l).map (Ag)) ((l).length:Int)),pk (Ak 3 ((l).length:Int) 0),pk (CN 3 (i:Int) 65535)]
 ·rw[if_neg h0]
  have h1:=Dh (iat l (i % l.length)) 65535 (by omega) (by omega)
  have h2:=Nat.div_le_self i l.length;have h3:=Nat.mod_lt i (Nat.pos_of_ne_zero h0);have e1:((i:Int)).tmod (l.length:Int)=((i % l.length:Nat):Int):=by rw[Int.tmod_eq_emod_of_nonneg (by omega)];rfl
  have e2:((i:Int)).tdiv (l.length:Int)=((i / l.length:Nat):Int):=by rw[Int.tdiv_eq_ediv_of_nonneg (by omega)];rfl
  generalize i / l.length=q at *;have hq:=e2;exact sr 23 [pk (AK 40 3 3 1 ((l).map (Ag)) ((l).length:Int)),pk (Af 3 ((l).length:Int) 0),pk (AK 40 3 3 1 ((l).map (Ag)) ((l).length:Int)),pk (DX 3 (i:Int) (l.length:Int) (by omega)),pk (Ah 40 3 1 ((l).map (Ag)) (i % l.length) (((i:Int)).tmod ((l).length:Int)) (Ag (iat l (i % l.length))) (Ay h3)),pk (CN 3 (iat l (i % l.length)) 65535),pk (AK 40 3 3 1 ((l).map (Ag)) ((l).length:Int)),pk (hq▸MV 3 (i:Int) (l.length:Int) (by omega) (by rw[hq];exact ⟨by omega,by omega⟩)),pk (Az 3 (BE (iat l (i % l.length)) 65535) (q:Int) ⟨by omega,by omega⟩)]
end
def Kc (n:Int):Ch :=
 if 1+BE n 3=1 then ⟨1+BE n 3,(Ce n 2).tmod 7,B9 (Ce n 4),0,0,0⟩
 else if 1+BE n 3=2 then ⟨1+BE n 3,(Ce n 2).tmod 7,0,BE (Ce n 4) 3,BE (Ce n 6) 3,0⟩
 else if 1+BE n 3=3 then ⟨1+BE n 3,0,0,0,0,BE (Ce n 4) 31 - 8⟩
 else ⟨1+BE n 3,(Ce n 2).tmod 7,0,0,0,0⟩
theorem Qk {N:Nat→Prop}{w:World}{g:Gh} : ∀ {xs ys:List It} {l:List Value},Bt N w g (xs++ys) l → ∃ l1 l2,l=l1++l2∧Bt N w g xs l1∧Bt N w g ys l2
 | [],_,l,h=>⟨[],l,rfl,rfl,h⟩
 | x::xs,_,l,⟨a,b,e,h1,h2⟩=>by
  obtain ⟨c,d,e2,h3,h4⟩:=Qk h2;exact ⟨a++c,d,by rw[e,e2,List.append_assoc],⟨a,c,rfl,h1,h3⟩,h4⟩
theorem ILe.app {a a' b b':List It}(h:ILe a a')(h':ILe b b'):ILe (a++b) (a'++b'):=fun N w g x hx=>by
 obtain ⟨l1,l2,e,h1,h2⟩:=Qk hx;rw[e];exact BW (h N w g l1 h1) (h' N w g l2 h2)
theorem Abk:ILe zl [.b (.it (fF false 12 0))]:=by
 intro N w g x hx;have h:=Acb (c:=false) (k:=1) (k':=12) (q:=0) (by omega) N w g _ (Abl N w g (.agg x.toArray) ⟨x,rfl,hx⟩)
 obtain ⟨vs,e,hv⟩:=h;injection e with e;have e:=congrArg Array.toList e;simp only at e;subst e;exact hv
theorem ST {k n a b z:Value}:CTle (.ag ([.b (.lit k),.b (.lit n)]++(zl++[.b (.lit a),.b (.lit b),.b (.lit z)]))) (.ag ([.b (.lit k),.b (.lit n)]++([.b (.it (fF false 12 0))]++[.b (.lit a),.b (.lit b),.b (.lit z)]))):=(ILe.refl.app (Abk.app ILe.refl)).ag
section
variable {I:WInv}{c c':Bool}
theorem SU (l:List Int)(i:Nat)(hi:i≤100000)(hl:l.length≤35184372087808):Sp Tryz.prog I 19 [.t (slI 1 (l.map Ag)),ci (i:Int)] (.cv (chT false (Kc (atS l i)))):=by
 have ha:=YT (I:=I) l i hi hl;generalize atS l i=n at *;have h3:=Dh n 3 (by omega) (by omega)
 have h31:=Dh (Ce n 4) 31 (by omega) (by omega)
 unfold Kc;by_cases k1:1+BE n 3=1
 ·rw[if_pos k1]
  refine Sp.rs ?_ (CTle.tv (ILe.ag (ILe.cons XLe.refl (ILe.cons XLe.refl (ILe.cons (Abb (c:=true) (k:=12) (fun h=>by cases h) (Nat.le_refl _) rfl).x ILe.refl)))))
  exact sr 44 [po (ha),pk (CN 3 n 3),pk (Az 3 1 (BE n 3) ⟨by omega,by omega⟩),pk (Ff 3 n 2),pk (DX 3 (Ce n 2) 7 (by omega)),pk (Ba 3 (1+(BE n 3)) 1 true (decide_eq_true (by omega))),pk (Ff 3 n 4),po (TS (I:=I) (Ce n 4))]
 ·rw[if_neg k1]
  by_cases k2:1+BE n 3=2
  ·rw[if_pos k2]
   refine Sp.rs ?_ (ST (a := .int .i64 (BE (Ce n 4) 3)) (b := .int .i64 (BE (Ce n 6) 3)) (z := .int .i64 0)).tv;exact sr 44 [po (ha),pk (CN 3 n 3),pk (Az 3 1 (BE n 3) ⟨by omega,by omega⟩),pk (Ff 3 n 2),pk (DX 3 (Ce n 2) 7 (by omega)),pk (Ba 3 (1+(BE n 3)) 1 false (decide_eq_false (by omega))),pk (Ba 3 (1+(BE n 3)) 2 true (decide_eq_true (by omega))),pk (Ff 3 n 4),pk (CN 3 (Ce n 4) 3),pk (Ff 3 n 6),pk (CN 3 (Ce n 6) 3)]
  ·rw[if_neg k2]
   by_cases k3:1+BE n 3=3
   ·rw[if_pos k3]
    refine Sp.rs ?_ (ST (a := .int .i64 0) (b := .int .i64 0) (z := .int .i64 (BE (Ce n 4) 31 - 8))).tv;exact sr 44 [po (ha),pk (CN 3 n 3),pk (Az 3 1 (BE n 3) ⟨by omega,by omega⟩),pk (Ff 3 n 2),pk (DX 3 (Ce n 2) 7 (by omega)),pk (Ba 3 (1+(BE n 3)) 1 false (decide_eq_false (by omega))),pk (Ba 3 (1+(BE n 3)) 2 false (decide_eq_false (by omega))),pk (Ba 3 (1+(BE n 3)) 3 true (decide_eq_true (by omega))),pk (Ff 3 n 4),pk (CN 3 (Ce n 4) 31),pk (Ov 3 (BE (Ce n 4) 31) 8 ⟨by omega,by omega⟩)]
   ·rw[if_neg k3]
    refine Sp.rs ?_ (ST (a := .int .i64 0) (b := .int .i64 0) (z := .int .i64 0)).tv;exact sr 44 [po (ha),pk (CN 3 n 3),pk (Az 3 1 (BE n 3) ⟨by omega,by omega⟩),pk (Ff 3 n 2),pk (DX 3 (Ce n 2) 7 (by omega)),pk (Ba 3 (1+(BE n 3)) 1 false (decide_eq_false (by omega))),pk (Ba 3 (1+(BE n 3)) 2 false (decide_eq_false (by omega))),pk (Ba 3 (1+(BE n 3)) 3 false (decide_eq_false (by omega)))]
end
end Go.Proofs.YtdgbealknnmkoaaGreatDoor
