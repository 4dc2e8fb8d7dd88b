/- Texts of one proof, put together by a program: each lemma is proved for all values of its variables, under the premises that it states. -/
import Derived.Test.YtdgbealknnmkoaaGreatDoorP2c2cab9d
import Derived.Test.YtdgbealknnmkoaaGreatDoorPf2d82ff0
set_option linter.unusedVariables false
set_option linter.unusedSimpArgs false
namespace Go.Proofs.YtdgbealknnmkoaaGreatDoor
open Go Go.RowKit
theorem Hn {N : Nat → Prop} {w w' : World} {A : Option Addr} {n : Nat} {xs : List Nat} (hw : WStep N w w') (h : Rd .u32 w w.heap.size A n xs) : Rd .u32 w' w'.heap.size A n xs := by
 refine ⟨h.1,fun hn => ?_⟩
 obtain ⟨b,off,hA,hb,hc⟩:=h.2 hn;refine ⟨b,off,hA,Nat.lt_of_lt_of_le hb hw.size,fun j x hx => ?_⟩
 have h1:=hc j x hx;rcases hw.keep b hb with e | e
 ·rw[World.cell?_of_block (w:=w) (a:=⟨b,off+j,none⟩) e];exact h1
 ·exfalso
  have hq:=e.2;cases ho:w.heap[b]? with
  | none=>rw[ho] at hq;exact hq
  | some o =>
   rw[ho] at hq;cases o with
   | cells cs T fr =>
    simp only[World.cell?,ho] at h1;have hm:(Value.int .u32 (x:Int))∈cs.toList:=by
     simp at h1;exact Array.mem_toList_iff.2 (Array.mem_of_getElem? h1)
    have:=hq _ hm;simp[PR] at this
   | _=>exact hq
theorem AInt.step {N:Nat→Prop}{w w':World}{s:Bool}{A:Option Addr}{n c:Nat}{z:Int}(h:AInt w s A n c z)(hw:WStep N w w'):AInt w' s A n c z:=by
 obtain ⟨ds,h1,h2⟩:=h;exact ⟨ds,Hn hw h1,h2⟩
theorem CInt.step {N:Nat→Prop}{w w':World}{s:Bool}{A:Option Addr}{n c:Nat}{z:Int}(h:CInt w s A n c z)(hw:WStep N w w'):CInt w' s A n c z:=⟨Hn hw h.1,h.2⟩
structure IntP where
 T:World→Bool→Option Addr→Nat→Nat→Prop
 step : ∀ {N:Nat→Prop} {w w':World} {s:Bool} {A:Option Addr} {n c:Nat},WStep N w w'→T w s A n c→T w' s A n c
def IP (q:IntP):Item where
 n:=2
 T:=fun _ w l => ∃ s A n c,l=[.bool s,.slice A n c]∧q.T w s A n c
 step:=fun hw _ ⟨s,A,n,c,e,h⟩=>⟨s,A,n,c,e,q.step hw h⟩
 len:=fun ⟨s,A,n,c,e,h⟩=>by rw[e];rfl
 one:=fun ⟨s,A,n,c,e,h⟩=>by rw[e];intro v hv;simp at hv;rcases hv with rfl | rfl <;> rfl
def cP (z:Int):IntP:=⟨fun w s A n c=>CInt w s A n c z,fun hw h=>h.step hw⟩
def aP (m:Nat)(z:Int):IntP:=⟨fun w s A n c=>AInt w s A n c z∧n≤m,fun hw h=>⟨h.1.step hw,h.2⟩⟩
abbrev ip (q:IntP):List It:=[.b (.it (IP q))]
abbrev ic (z:Int):List It:=ip (cP z)
abbrev ia (m:Nat)(z:Int):List It:=ip (aP m z)
def NZ:List It:=[.o false,.z]
def Num (x:List It)(z:Int):Prop := ∀ N w l,Bi N w G0 x l → ∃ s A n c,l=[.bool s,.slice A n c]∧AInt w s A n c z∧n≤1048576
def Can (x:List It)(z:Int):Prop := ∀ N w l,Bi N w G0 x l → ∃ s A n c,l=[.bool s,.slice A n c]∧CInt w s A n c z
theorem C5 {N:Nat→Prop}{w:World}{g:Gh}{x:It}{l:List Value}(h:Bi N w g [x] l):x.sem N w g l:=by
 obtain ⟨l1,l2,e,h1,h2⟩:=h;rw[show l2=[] from h2,List.append_nil] at e;rw[e];exact h1
theorem Cb {N:Nat→Prop}{w:World}{g:Gh}{x:It}{l:List Value}(h:x.sem N w g l):Bi N w g [x] l:=⟨l,[],by simp,h,rfl⟩
theorem Add (z:Int):Can (ic z) z:=fun N w l h=>C5 h
theorem UT:Can NZ 0:=by
 intro N w l h;obtain ⟨l1,l2,e,h1,l3,l4,e2,h3,h4⟩:=h;rw[show l4=[] from h4,show l3=_ from h3] at e2;rw[show l1=_ from h1,e2] at e;exact ⟨false,none,0,0,e,CInt.zero w⟩
theorem Bj {z:Int}{k:Nat}(h:Lim k z)(hk:k≤1048576):Num (ic z) z:=by
 intro N w l hl;obtain ⟨s,A,n,c,e,hc⟩:=Add z N w l hl;exact ⟨s,A,n,c,e,hc.any,Nat.le_trans (hc.len h) hk⟩
theorem Ga {z:Int}{m:Nat}(hm:m≤1048576):Num (ia m z) z:=by
 intro N w l hl;obtain ⟨s,A,n,c,e,h,hn⟩:=C5 hl;exact ⟨s,A,n,c,e,h,Nat.le_trans hn hm⟩
theorem PN:Num NZ 0:=by
 intro N w l hl;obtain ⟨s,A,n,c,e,hc⟩:=UT N w l hl;exact ⟨s,A,n,c,e,hc.any,Nat.le_trans (hc.len (k:=0) (by unfold Lim;decide)) (by decide)⟩
theorem NN {N:Nat→Prop}{w:World}{x:List It}{vs:List Value}(h:all2 (CT.sem N w G0) [.ag x] vs) : ∃ l,vs=[.agg l.toArray]∧Bi N w G0 x l:=by
 obtain ⟨v,r,e,⟨l,e1,h1⟩,h2⟩:=h;rw[show r=[] from h2] at e;exact ⟨l,by rw[e,e1],h1⟩
theorem S4 {N:Nat→Prop}{w:World}{x y:List It}{vs:List Value}(h:all2 (CT.sem N w G0) [.ag x,.ag y] vs) : ∃ l m,vs=[.agg l.toArray,.agg m.toArray]∧Bi N w G0 x l∧Bi N w G0 y m:=by
 obtain ⟨v,r,e,⟨l,e1,h1⟩,h2⟩:=h;obtain ⟨m,e2,h3⟩:=NN h2;exact ⟨l,m,by rw[e,e1,e2],h1,h3⟩
theorem K8 {N:Nat→Prop}{w:World}{u:Value}{vs:List Value}(h:all2 (CT.sem N w G0) [.one (.b (.lit u))] vs):vs=[u]:=by
 obtain ⟨v,r,e,h1,h2⟩:=h;have h1:[v]=[u]:=h1;injection h1 with h1;rw[show r=[] from h2] at e;rw[e,h1]
abbrev tic (z:Int):TV := .cv (.ag (ic z))
theorem EI {N:Nat→Prop}{w w':World}{z:Int}{e:Ending}(h:RetInt w z e w') : ∃ v,e = .returned v∧(tic z).sem (Nx N w w') w' G0 v∧Below w.heap.size w w':=by
 obtain ⟨s,A,n,c,e1,h1,h2⟩:=h;exact ⟨_,e1,⟨[.bool s,.slice A n c],rfl,Cb ⟨s,A,n,c,rfl,h1⟩⟩,h2⟩
theorem GB {N:Nat→Prop}{w w':World}{u:Value}{e:Ending}(h:Gw w u e w') : ∃ v,e = .returned v∧(B0 u).sem (Nx N w w') w' G0 v∧Below w.heap.size w w':=⟨u,h.1,(rfl:[u]=[u]),h.2⟩
theorem Sp.sub {P:Program}{I:WInv}{f:FuncId}{args args':List CT}{res:TV}(h:Sp P I f args res)(hs : ∀ N w vs,all2 (CT.sem N w G0) args' vs→all2 (CT.sem N w G0) args vs):Sp P I f args' res :=
 fun N w vs hI hl hv=>h N w vs hI hl (hs N w vs hv)
section
variable {I:WInv}{x y:List It}{a b:Int}
theorem sp1 {f:FuncId}{r:Int}(h : ∀ (w:World) (s:Bool) (A:Option Addr) (n c:Nat),AInt w s A n c a→n≤1048576→Calls Tryz.prog f #[.agg #[.bool s,.slice A n c]] w (RetInt w r))(hx:Num x a):Sp Tryz.prog I f [.ag x] (tic r):=by
 intro N w vs _ _ hv;obtain ⟨l,rfl,h1⟩:=NN hv;obtain ⟨s,A,n,c,rfl,h2,h3⟩:=hx N w l h1;exact (h w s A n c h2 h3).mono fun e w' he=>EI he
theorem Adt {f:FuncId}{u:Value}(h : ∀ (w:World) (s:Bool) (A:Option Addr) (n c:Nat),AInt w s A n c a→n≤1048576→Calls Tryz.prog f #[.agg #[.bool s,.slice A n c]] w (Gw w u))(hx:Num x a):Sp Tryz.prog I f [.ag x] (B0 u):=by
 intro N w vs _ _ hv;obtain ⟨l,rfl,h1⟩:=NN hv;obtain ⟨s,A,n,c,rfl,h2,h3⟩:=hx N w l h1;exact (h w s A n c h2 h3).mono fun e w' he=>GB he
theorem sp2 {f:FuncId}{r:Int}(h : ∀ (w:World) (s t:Bool) (A A':Option Addr) (n c n' c':Nat),AInt w s A n c a→AInt w t A' n' c' b→n≤1048576→n'≤1048576→Calls Tryz.prog f #[.agg #[.bool s,.slice A n c],.agg #[.bool t,.slice A' n' c']] w (RetInt w r))(hx:Num x a)(hy:Num y b):Sp Tryz.prog I f [.ag x,.ag y] (tic r):=by
 intro N w vs _ _ hv;obtain ⟨l,m,rfl,h1,h1'⟩:=S4 hv;obtain ⟨s,A,n,c,rfl,h2,h3⟩:=hx N w l h1;obtain ⟨s',A',n',c',rfl,h2',h3'⟩:=hy N w m h1';exact (h w s s' A A' n c n' c' h2 h2' h3 h3').mono fun e w' he=>EI he
theorem AdM {f:FuncId}{u:Value}(h : ∀ (w:World) (s t:Bool) (A A':Option Addr) (n c n' c':Nat),AInt w s A n c a→AInt w t A' n' c' b→n≤1048576→n'≤1048576→Calls Tryz.prog f #[.agg #[.bool s,.slice A n c],.agg #[.bool t,.slice A' n' c']] w (Gw w u))(hx:Num x a)(hy:Num y b):Sp Tryz.prog I f [.ag x,.ag y] (B0 u):=by
 intro N w vs _ _ hv;obtain ⟨l,m,rfl,h1,h1'⟩:=S4 hv;obtain ⟨s,A,n,c,rfl,h2,h3⟩:=hx N w l h1;obtain ⟨s',A',n',c',rfl,h2',h3'⟩:=hy N w m h1';exact (h w s s' A A' n c n' c' h2 h2' h3 h3').mono fun e w' he=>GB he
abbrev tdm (q r code:Int):TV := .tu [.ag (ic q),.ag (ic r),.i code]
theorem AdN {f:FuncId}(h : ∀ (w:World) (s t:Bool) (A A':Option Addr) (n c n' c':Nat),AInt w s A n c a→AInt w t A' n' c' b→n≤1048576→n'≤1048576→Calls Tryz.prog f #[.agg #[.bool s,.slice A n c],.agg #[.bool t,.slice A' n' c']] w (AbP w a b))(hx:Num x a)(hy:Num y b)(hb:b≠0):Sp Tryz.prog I f [.ag x,.ag y] (tdm (a.fdiv b) (a.fmod b) 0):=by
 intro N w vs _ _ hv;obtain ⟨l,m,rfl,h1,h1'⟩:=S4 hv;obtain ⟨s,A,n,c,rfl,h2,h3⟩:=hx N w l h1;obtain ⟨s',A',n',c',rfl,h2',h3'⟩:=hy N w m h1';refine (h w s s' A A' n c n' c' h2 h2' h3 h3').mono fun e w' he => ?_
 obtain ⟨s1,A1,n1,c1,s2,A2,n2,c2,code,e1,k1,k2,k3,k4⟩:=he;rw[if_neg hb] at k2 k3;exact ⟨_,e1,⟨_,rfl,_,_,rfl,⟨_,rfl,Cb ⟨s1,A1,n1,c1,rfl,k1⟩⟩,_,_,rfl,⟨_,rfl,Cb ⟨s2,A2,n2,c2,rfl,k2⟩⟩,_,_,rfl,by rw[k3];exact (rfl:[_]=[_]),rfl⟩,k4⟩
theorem J7 (hx:Num x a)(hy:Num y b):Sp Tryz.prog I 145 [.ag x,.ag y] (tic (a+b)):=sp2 (fun w s t A A' n c n' c' h1 h2 h3 h4=>Abp w h1 h2 (by omega) (by omega)) hx hy
theorem Fs (hx:Num x a)(hy:Num y b):Sp Tryz.prog I 146 [.ag x,.ag y] (tic (a*b)):=sp2 (fun w s t A A' n c n' c' h1 h2 h3 h4=>Aaz w h1 h2 (by omega) (by omega)) hx hy
theorem Gd (hx:Num x a):Sp Tryz.prog I 127 [.ag x] (tic (-a)):=sp1 (fun w s A n c h1 h2=>Tc w h1 (by omega)) hx
theorem Qj (hx:Num x a)(hy:Num y b):Sp Tryz.prog I 129 [.ag x,.ag y] (tic (Nat.gcd a.natAbs b.natAbs:Nat)):=sp2 (fun w s t A A' n c n' c' h1 h2 h3 h4=>AaB w h1 h2 (by omega) (by omega)) hx hy
theorem BL (k:Int)(hx:Num x a)(hk:a.sign=k):Sp Tryz.prog I 102 [.ag x] (B0 (.int .i64 k)):=Adt (fun w s A n c h1 h2=>by subst hk;exact X3 w h1) hx
theorem Qr (k:Int)(hx:Num x a)(hy:Num y b)(hk:CO a b=k):Sp Tryz.prog I 164 [.ag x,.ag y] (B0 (.int .i64 k)):=AdM (fun w s t A A' n c n' c' h1 h2 h3 h4=>by subst hk;exact Sm w h1 h2 (by omega) (by omega)) hx hy
theorem Kq (hx:Num x a)(hy:Num y b)(hb:b≠0):Sp Tryz.prog I 130 [.ag x,.ag y] (tdm (a.fdiv b) (a.fmod b) 0):=AdN (fun w s t A A' n c n' c' h1 h2 h3 h4=>T3 w h1 h2 (by omega) (by omega)) hx hy hb
theorem GR (k:Int)(h1 : -9223372036854775808≤k)(h2:k≤9223372036854775807):Sp Tryz.prog I 99 [.i k] (tic k):=by
 intro N w vs _ _ hv;rw[K8 hv];exact (Oa k w h1 h2).mono fun e w' he=>EI he
theorem JK (hx:Num x a):Sp Tryz.prog I 147 [.ag x] (tic (-a)):=sp1 (fun w s A n c h1 h2=>NV w h1 (by omega)) hx
theorem E4 (hx:Num x a):Sp Tryz.prog I 150 [.ag x] (tic a):=sp1 (fun w s A n c h1 h2=>DV w h1 (by omega)) hx
theorem Ul (hx:Num x a)(hy:Num y b):Sp Tryz.prog I 148 [.ag x,.ag y] (tic (Nat.gcd a.natAbs b.natAbs:Nat)):=sp2 (fun w s t A A' n c n' c' h1 h2 h3 h4=>SO w h1 h2 (by omega) (by omega)) hx hy
theorem CG (k:Int)(hx:Num x a)(hk:a.sign=k):Sp Tryz.prog I 94 [.ag x] (B0 (.int .i64 k)):=Adt (fun w s A n c h1 h2=>by subst hk;exact Rf w h1 (by omega)) hx
theorem FX (k:Int)(h1 : -9223372036854775808≤k)(h2:k≤9223372036854775807):Sp Tryz.prog I 113 [.i k] (tic k):=by
 intro N w vs _ _ hv;rw[K8 hv];exact (KN k w h1 h2).mono fun e w' he=>EI he
theorem ZY (k:Bool)(hx:Can x a)(hy:Can y b)(hk:decide (a=b)=k):Sp Tryz.prog I 107 [.ag x,.ag y] (B0 (.bool k)):=by
 intro N w vs _ _ hv;obtain ⟨l,m,rfl,h1,h1'⟩:=S4 hv;obtain ⟨s,A,n,c,rfl,h2⟩:=hx N w l h1;obtain ⟨s',A',n',c',rfl,h2'⟩:=hy N w m h1';subst hk;exact (QU w h2 h2').mono fun e w' he=>GB he
end
abbrev po {P:Program}{I:WInv}{nt:Nat}{f:FuncId}{args:List CT}{res:TV}(h:Sp P I f args res):PO P I nt:=⟨.sp f args res,h⟩
abbrev pon {P:Program}{I:WInv}{nt:Nat}{f:FuncId}{args:List CT}{rest:Option (List CT)}{e:Ent}(h:SpN P I f args rest e):PO P I nt:=⟨.spn f args rest e,h⟩
abbrev pk {P:Program}{I:WInv}{nt:Nat}{k:OpK}{ts:List TV}{res:TV}(h:Bx P k ts res):PO P I nt:=⟨.op k ts res,h⟩
section
variable {P:Program}
theorem BE {k:OpK}{vs:List Value}{v:Value}(h : ∀ w,(k.run vs).run P w = .ok v w):Bx P k (vs.map B0) (B0 v):=by
 intro N w g us hu;have e:us=vs:=by
  have : ∀ (vs us:List Value),NP (TV.sem N w g) (vs.map B0) us→us=vs:=by
   intro vs;induction vs with
   | nil=>intro us h;exact h
   | cons v vs ih =>
    rintro us ⟨u,l,e,h1,h2⟩;have h1:[u]=[v]:=h1;injection h1 with h1;rw[e,h1,ih l h2]
  exact this vs us hu
 subst e;exact ⟨v,w,h w,Below.refl _ _,(rfl:[v]=[v])⟩
abbrev li (z:Int):TV:=B0 (.int .i64 z)
abbrev lb (b:Bool):TV:=B0 (.bool b)
abbrev ci (z:Int):CT := .i z
abbrev cb (b:Bool):CT := .one (.o b)
abbrev R64 (z:Int):Prop := -9223372036854775808≤z∧z≤9223372036854775807
theorem Ay (t:TypeId)(x y:Int)(h:R64 (x+y)):Bx P (.bin .add t) [li x,li y] (li (x+y)):=BE (vs:=[.int .i64 x,.int .i64 y]) fun w=>by simp[OpK.run,eqGuard,binOp,Op.intArith,IntWalk.i64_in _ h]
theorem Sz (t:TypeId)(x y:Int)(h:R64 (x - y)):Bx P (.bin .sub t) [li x,li y] (li (x - y)):=BE (vs:=[.int .i64 x,.int .i64 y]) fun w=>by simp[OpK.run,eqGuard,binOp,Op.intArith,IntWalk.i64_in _ h]
theorem Jo (t:TypeId)(x y:Int)(h:R64 (x*y)):Bx P (.bin .mul t) [li x,li y] (li (x*y)):=BE (vs:=[.int .i64 x,.int .i64 y]) fun w=>by simp[OpK.run,eqGuard,binOp,Op.intArith,IntWalk.i64_in _ h]
theorem S0 (t:TypeId)(x y:Int)(hy:y≠0)(h:R64 (x.tdiv y)):Bx P (.bin .quo t) [li x,li y] (li (x.tdiv y)):=BE (vs:=[.int .i64 x,.int .i64 y]) fun w=>by simp[OpK.run,eqGuard,binOp,Op.intDiv,hy,IntWalk.i64_in _ h]
theorem DJ (t:TypeId)(x y:Int)(hy:y≠0):Bx P (.bin .rem t) [li x,li y] (li (x.tmod y)):=BE (vs:=[.int .i64 x,.int .i64 y]) fun w=>by simp[OpK.run,eqGuard,binOp,Op.intDiv,hy]
theorem CK (t:TypeId)(x y:Int)(b:Bool)(h:decide (x < y)=b):Bx P (.bin .lss t) [li x,li y] (lb b):=BE (vs:=[.int .i64 x,.int .i64 y]) fun w=>by subst h;simp[OpK.run,eqGuard,binOp,Op.intCmp]
theorem AbM (t:TypeId)(x y:Int)(b:Bool)(h:decide (x≤y)=b):Bx P (.bin .leq t) [li x,li y] (lb b):=BE (vs:=[.int .i64 x,.int .i64 y]) fun w=>by subst h;simp[OpK.run,eqGuard,binOp,Op.intCmp]
theorem Dj (t:TypeId)(x y:Int)(b:Bool)(h:decide (y < x)=b):Bx P (.bin .gtr t) [li x,li y] (lb b):=BE (vs:=[.int .i64 x,.int .i64 y]) fun w=>by subst h;simp[OpK.run,eqGuard,binOp,Op.intCmp]
theorem UV (t:TypeId)(x y:Int)(b:Bool)(h:decide (y≤x)=b):Bx P (.bin .geq t) [li x,li y] (lb b):=BE (vs:=[.int .i64 x,.int .i64 y]) fun w=>by subst h;simp[OpK.run,eqGuard,binOp,Op.intCmp]
theorem AO (t:TypeId)(x y:Int)(b:Bool)(h:decide (x=y)=b):Bx P (.bin .eql t) [li x,li y] (lb b):=BE (vs:=[.int .i64 x,.int .i64 y]) fun w=>by subst h;simp[OpK.run,eqGuard,binOp,Op.intCmp];rfl
theorem D3 (t:TypeId)(x y:Int)(b:Bool)(h:decide (x=y) = !b):Bx P (.bin .neq t) [li x,li y] (lb b):=BE (vs:=[.int .i64 x,.int .i64 y]) fun w=>by
 have:(x != y)=b:=by
  have h2:(x == y) = !b:=by rw[←h];rfl
  rw[bne,h2];simp
 simp[OpK.run,eqGuard,binOp,Op.intCmp,this]
theorem Ak (t:TypeId)(x y:Int)(h:x < y:=by omega):Bx P (.bin .lss t) [li x,li y] (lb true):=CK t x y true (decide_eq_true h)
theorem Ai (t:TypeId)(x y:Int)(h : ¬ x < y:=by omega):Bx P (.bin .lss t) [li x,li y] (lb false):=CK t x y false (decide_eq_false h)
theorem Ha (t:TypeId)(x y:Int)(h:x≤y:=by omega):Bx P (.bin .leq t) [li x,li y] (lb true):=AbM t x y true (decide_eq_true h)
theorem J6 (t:TypeId)(x y:Int)(h : ¬ x≤y:=by omega):Bx P (.bin .leq t) [li x,li y] (lb false):=AbM t x y false (decide_eq_false h)
theorem BY (t:TypeId)(x y:Int)(h:y < x:=by omega):Bx P (.bin .gtr t) [li x,li y] (lb true):=Dj t x y true (decide_eq_true h)
theorem Au (t:TypeId)(x y:Int)(h : ¬ y < x:=by omega):Bx P (.bin .gtr t) [li x,li y] (lb false):=Dj t x y false (decide_eq_false h)
theorem Bn (t:TypeId)(x y:Int)(h:y≤x:=by omega):Bx P (.bin .geq t) [li x,li y] (lb true):=UV t x y true (decide_eq_true h)
theorem Bd (t:TypeId)(x y:Int)(h : ¬ y≤x:=by omega):Bx P (.bin .geq t) [li x,li y] (lb false):=UV t x y false (decide_eq_false h)
theorem Ar (t:TypeId)(x y:Int)(h:x=y:=by omega):Bx P (.bin .eql t) [li x,li y] (lb true):=AO t x y true (decide_eq_true h)
theorem Ag (t:TypeId)(x y:Int)(h : ¬ x=y:=by omega):Bx P (.bin .eql t) [li x,li y] (lb false):=AO t x y false (decide_eq_false h)
theorem AI (t:TypeId)(x y:Int)(h : ¬ x=y:=by omega):Bx P (.bin .neq t) [li x,li y] (lb true):=D3 t x y true (decide_eq_false h)
theorem Ao (t:TypeId)(x y:Int)(h:x=y:=by omega):Bx P (.bin .neq t) [li x,li y] (lb false):=D3 t x y false (decide_eq_true h)
theorem TP (x:Int)(h:R64 (-x)):Bx P (.un .neg) [li x] (li (-x)):=BE (vs:=[.int .i64 x]) fun w=>by
 have:IntKind.i64.wrap (0 - x) = -x:=by rw[Int.zero_sub];exact IntWalk.i64_in _ h
 simp only[OpK.run,Op.unary,Op.intArith,this]
 rfl
variable {I:WInv}{f:FuncId}
theorem Sp.res {args:List CT}{res res':TV}(h:Sp P I f args res)(hs : ∀ N w v,res.sem N w G0 v→res'.sem N w G0 v):Sp P I f args res' :=
 fun N w vs hI hl hv=>(h N w vs hI hl hv).mono fun e w' ⟨v,h1,h2,h3⟩=>⟨v,h1,hs _ _ _ h2,h3⟩
theorem Sp.ex {ι:Type}{ok:ι→Prop}{args':List CT}{args:ι→List CT}{res:TV}(hs : ∀ N w vs,all2 (CT.sem N w G0) args' vs → ∃ i,ok i∧all2 (CT.sem N w G0) (args i) vs)(h : ∀ i,ok i→Sp P I f (args i) res):Sp P I f args' res:=by
 intro N w vs hI hl hv;obtain ⟨i,h1,h2⟩:=hs N w vs hv;exact h i h1 N w vs hI hl h2
def DS (ds:List Nat):Item where
 n:=1
 T:=fun _ w l => ∃ A c,l=[.slice A ds.length c]∧Rd .u32 w w.heap.size A ds.length ds∧ds.length≤c∧c≤9223372036854775807
 step:=fun hw _ ⟨A,c,e,h,hc⟩=>⟨A,c,e,Hn hw h,hc⟩
 len:=fun ⟨A,c,e,h⟩=>by rw[e];rfl
 one:=fun ⟨A,c,e,h⟩=>by rw[e];intro v hv;simp at hv;subst hv;rfl
def PU (d:Nat):Item where
 n:=1
 T:=fun _ w l => ∃ b o,l=[.pointer (some ⟨b,o,none⟩)]∧b < w.heap.size∧w.cell? ⟨b,o,none⟩=some (.int .u32 d)
 step:=fun {N N' w w' l} hw _ ⟨b,o,e,h1,h2⟩=>by
  have:=Hn (A:=some ⟨b,o,none⟩) (n:=1) (xs:=[d]) hw ⟨rfl,fun _=>⟨b,o,rfl,h1,fun j x hx=>by
   cases j with
   | zero=>simp at hx;subst hx;simpa using h2
   | succ j=>simp at hx⟩⟩
  obtain ⟨b',o',e1,h3,h4⟩:=this.2 (by omega)
  injection e1 with e1;injection e1 with e1 e2;subst e1 e2;exact ⟨b,o,e,h3,by simpa using h4 0 d rfl⟩
 len:=fun ⟨b,o,e,h⟩=>by rw[e];rfl
 one:=fun ⟨b,o,e,h⟩=>by rw[e];intro v hv;simp at hv;subst hv;rfl
theorem ED {N:Nat→Prop}{w:World}{g:Gh}{t:TV}{vs:List Value}(h:NP (TV.sem N w g) [t] vs) : ∃ v,vs=[v]∧t.sem N w g v:=by
 obtain ⟨v,l,e,h1,h2⟩:=h;rw[show l=[] from h2] at e;exact ⟨v,e,h1⟩
theorem D4 {N:Nat→Prop}{w:World}{g:Gh}{t u:TV}{vs:List Value}(h:NP (TV.sem N w g) [t,u] vs) : ∃ v x,vs=[v,x]∧t.sem N w g v∧u.sem N w g x:=by
 obtain ⟨v,l,e,h1,h2⟩:=h;obtain ⟨x,e2,h3⟩:=ED h2;exact ⟨v,x,by rw[e,e2],h1,h3⟩
abbrev tit (i:Item):TV := .t i
theorem GT (t e ty:TypeId)(ds:List Nat)(ht:P.underlying t=some (.slice e)):Bx P (.len #[t] ty) [tit (DS ds)] (li ds.length):=by
 intro N w g vs hv;obtain ⟨v,rfl,A,c,e1,h⟩:=ED hv;injection e1 with e1;subst e1;exact ⟨_,w,by simp[OpK.run,Builtin.len_,AP ht,goInt],Below.refl _ _,(rfl:[_]=[_])⟩
theorem N9 (t e:TypeId)(ds:List Nat)(i:Nat)(z:Int)(d:Nat)(ht:P.underlying t=some (.slice e))(hs:Ci P e=some 1)(hz:z=(i:Int))(hd:ds[i]? = some d):Bx P (.idxA t) [tit (DS ds),li z] (tit (PU d)):=by
 intro N w g vs hv;obtain ⟨v,x,rfl,⟨A,c,e1,h,_⟩,h2⟩:=D4 hv;injection e1 with e1;subst e1 hz;have h2:[x]=[.int .i64 (i:Int)]:=h2;injection h2 with h2;subst h2;have hlt:i < ds.length:=(List.getElem?_eq_some_iff.1 hd).1;obtain ⟨b,off,hA,hb,hc⟩:=h.2 (by omega)
 subst hA;refine ⟨.pointer (some ⟨b,off+i,none⟩),w,?_,Below.refl _ _,⟨b,off+i,rfl,hb,hc i d hd⟩⟩;have h3:(i:Int) < (ds.length:Int):=by omega
 simp[OpK.run,Instr.indexAt,asIntOf,AP ht,C4 hs,Dt,hlt]
theorem JS (t:TypeId)(d:Nat)(ha:TH P t=some false):Bx P (.load t) [tit (PU d)] (B0 (.int .u32 d)):=by
 intro N w g vs hv;obtain ⟨v,rfl,b,o,e1,h1,h2⟩:=ED hv;injection e1 with e1;subst e1;exact ⟨_,w,by simp[OpK.run,Instr.loadAt,Instr.sureAddr,loadVar,Hd ha,Go.load,Sem.run,h2],Below.refl _ _,(rfl:[_]=[_])⟩
theorem Pk (t:TypeId)(x y:Nat)(b:Bool)(h:decide (x < y)=b):Bx P (.bin .lss t) [B0 (.int .u32 x),B0 (.int .u32 y)] (lb b):=BE (vs:=[.int .u32 x,.int .u32 y]) fun w=>by subst h;simp[OpK.run,eqGuard,binOp,Op.intCmp]
theorem TR (s t:TypeId)(x:Nat)(hs:P.underlying s=some (.int .u32))(ht:P.underlying t=some (.int .i64))(h:x < 4294967296):Bx P (.conv s t) [B0 (.int .u32 x)] (li x):=BE (vs:=[.int .u32 x]) fun w=>by
 simp[OpK.run,convert,AP hs,AP ht,Conv.intToInt,IntWalk.i64_in (x:Int) (by omega)]
end
def sP (z:Int):IntP:=⟨fun w s A n c => ∃ ds,Rd .u32 w w.heap.size A n ds∧n=ds.length∧n≤1∧n≤c∧c≤9223372036854775807∧val ds < 2147483648∧z=sgn s (val ds),fun hw ⟨ds,h1,h2⟩=>⟨ds,Hn hw h1,h2⟩⟩
def lP (z:Int):IntP:=⟨fun w s A n c => ∃ ds,Rd .u32 w w.heap.size A n ds∧W32 ds∧n=ds.length∧n≤1048576∧n≤c∧c≤9223372036854775807∧z=sgn s (val ds)∧(2≤ds.length ∨ ∃ d,ds=[d]∧2147483648≤d),fun hw ⟨ds,h1,h2⟩=>⟨ds,Hn hw h1,h2⟩⟩
theorem Pg (d:Nat):val [d]=d:=by simp[val]
theorem Adx {w:World}{s:Bool}{A:Option Addr}{n c:Nat}{z:Int}(h:(sP z).T w s A n c) : -2147483648 < z∧z < 2147483648:=by
 obtain ⟨ds,_,_,_,_,_,h1,rfl⟩:=h;unfold sgn;split <;> omega
theorem KT {z:Int}:Num (ip (sP z)) z:=by
 intro N w l hl;obtain ⟨s,A,n,c,e,ds,h1,h2,h3,h4,h5,h6,h7⟩:=C5 hl;refine ⟨s,A,n,c,e,⟨ds,h1,?_,h4,h5,h7⟩,by omega⟩
 intro d hd
 match ds,h2,h3,h6,hd with
 | [],_,_,_,hd=>cases hd
 | [e],_,_,h6,hd=>rw[Pg] at h6;simp at hd;omega
 | _::_::_,h2,h3,_,_=>simp at h2;omega
theorem PP {z:Int}:Num (ip (lP z)) z:=by
 intro N w l hl;obtain ⟨s,A,n,c,e,ds,h1,h2,h3,h4,h5,h6,h7,_⟩:=C5 hl;exact ⟨s,A,n,c,e,⟨ds,h1,h2,h5,h6,h7⟩,h4⟩
theorem JI {x:List It}{z:Int}(h:Num x z){N:Nat→Prop}{w:World}{l:List Value}(hl:Bi N w G0 x l):Bi N w G0 (ip (sP z)) l∨Bi N w G0 (ip (lP z)) l:=by
 obtain ⟨s,A,n,c,e,⟨ds,h1,h2,h3,h4,h5⟩,h6⟩:=h N w l hl;have hn:n=ds.length:=h1.1.symm;by_cases hs:ds.length≤1∧val ds < 2147483648
 ·exact .inl (Cb ⟨s,A,n,c,e,ds,h1,hn,by omega,h3,h4,hs.2,h5⟩)
 ·refine .inr (Cb ⟨s,A,n,c,e,ds,h1,h2,hn,h6,h3,h4,h5,?_⟩)
  match ds,hs with
  | [],hs=>exact absurd ⟨by simp,by simp[val]⟩ hs
  | [d],hs=>right;refine ⟨d,rfl,?_⟩;rw[Pg] at hs;simp at hs;exact hs
  | _::_::_,_=>left;simp
section
variable {I:WInv}{z n d:Int}
abbrev dsT (s:Bool)(ds:List Nat):CT := .ag [.o s,.b (.it (DS ds))]
theorem Xc (s:Bool):Sp Tryz.prog I 217 [dsT s []] (.tu [ci 0,cb true]) :=
 sr 29 [pk (GT 22 97 3 [] Tryz.underlying22)]
theorem Xd (d:Nat)(h:d < 2147483648):Sp Tryz.prog I 217 [dsT true [d]] (.tu [ci (-d),cb true]) :=
 sr 29 [pk (GT 22 97 3 [d] Tryz.underlying22),
  pk (N9 22 97 [d] 0 0 d Tryz.underlying22 (by kernel_rfl) rfl rfl),pk (JS 97 d (by kernel_rfl)),pk (Pk 97 d 2147483648 true (by simpa using h)),
  pk (N9 22 97 [d] 0 0 d Tryz.underlying22 (by kernel_rfl) rfl rfl),pk (JS 97 d (by kernel_rfl)),pk (TR 97 2 d Tryz.underlying97 Tryz.underlying2 (by omega)),pk (TP d ⟨by omega,by omega⟩)]
theorem Xb (d:Nat)(h:d < 2147483648):Sp Tryz.prog I 217 [dsT false [d]] (.tu [ci d,cb true]) :=
 sr 29 [pk (GT 22 97 3 [d] Tryz.underlying22),
  pk (N9 22 97 [d] 0 0 d Tryz.underlying22 (by kernel_rfl) rfl rfl),pk (JS 97 d (by kernel_rfl)),pk (Pk 97 d 2147483648 true (by simpa using h)),
  pk (N9 22 97 [d] 0 0 d Tryz.underlying22 (by kernel_rfl) rfl rfl),pk (JS 97 d (by kernel_rfl)),pk (TR 97 2 d Tryz.underlying97 Tryz.underlying2 (by omega))]
theorem Xe (s:Bool)(d:Nat)(h:2147483648≤d):Sp Tryz.prog I 217 [dsT s [d]] (.tu [ci 0,cb false]) :=
 sr 29 [pk (GT 22 97 3 [d] Tryz.underlying22),
  pk (N9 22 97 [d] 0 0 d Tryz.underlying22 (by kernel_rfl) rfl rfl),pk (JS 97 d (by kernel_rfl)),pk (Pk 97 d 2147483648 false (by simpa using h))]
theorem Vj (s:Bool)(ds:List Nat)(h:2≤ds.length):Sp Tryz.prog I 217 [dsT s ds] (.tu [ci 0,cb false]) :=
 sr 29 [pk (GT 22 97 3 ds Tryz.underlying22),pk (AO 3 ds.length 0 false (decide_eq_false (by omega))),pk (AO 3 ds.length 1 false (decide_eq_false (by omega)))]
theorem Uv {q:IntP}{ok:Bool×List Nat→Prop}(h : ∀ w s A n c,q.T w s A n c → ∃ ds,Rd .u32 w w.heap.size A n ds∧n=ds.length∧n≤c∧c≤9223372036854775807∧ok (s,ds)) :
  ∀ N w vs,all2 (CT.sem N w G0) [.ag (ip q)] vs → ∃ i,ok i∧all2 (CT.sem N w G0) [dsT i.1 i.2] vs:=by
 intro N w vs hv;obtain ⟨l,rfl,h1⟩:=NN hv;obtain ⟨s,A,n,c,rfl,h2⟩:=C5 h1;obtain ⟨ds,h3,rfl,hc1,hc2,h4⟩:=h w s A n c h2;exact ⟨(s,ds),h4,_,_,rfl,⟨_,rfl,[.bool s],[.slice A ds.length c],rfl,rfl,Cb ⟨A,c,rfl,h3,hc1,hc2⟩⟩,rfl⟩
theorem Cv:Sp Tryz.prog I 217 [.ag (ip (sP z))] (.tu [ci z,cb true]):=by
 refine Sp.ex (ok:=fun i=>i.2.length≤1∧val i.2 < 2147483648∧z=sgn i.1 (val i.2)) (Uv ?_) ?_
 ·rintro w s A n c ⟨ds,h1,h2,h3,h4,h5,h6,h7⟩
  exact ⟨ds,h1,h2,h4,h5,by show ds.length≤1;omega,h6,h7⟩
 ·rintro ⟨s,ds⟩ ⟨h1,h2,h3⟩
  change ds.length≤1 at h1
  change val ds < 2147483648 at h2
  change z=sgn s (val ds) at h3
  match ds,h1,h2,h3 with
  | [],_,_,h3 =>
   have:z=0:=by rw[h3];cases s <;> rfl
   subst this;exact Xc s
  | [d],_,h2,h3 =>
   rw[Pg] at h2 h3;cases s with
   | true=>rw[h3];exact Xd d h2
   | false=>rw[h3];exact Xb d h2
  | _::_::_,h1,_,_=>simp at h1
theorem JJ:Sp Tryz.prog I 217 [.ag (ip (lP z))] (.tu [ci 0,cb false]):=by
 refine Sp.ex (ok:=fun i=>2≤i.2.length ∨ ∃ d,i.2=[d]∧2147483648≤d) (Uv ?_) ?_
 ·rintro w s A n c ⟨ds,h1,h2,h3,h4,h5,h6,h7,h8⟩
  exact ⟨ds,h1,h3,h5,h6,h8⟩
 ·rintro ⟨s,ds⟩ (h | ⟨d,h1,h2⟩)
  ·exact Vj s ds h
  ·simp only at h1
   subst h1;exact Xe s d h2
end
def AdW (k:Nat):Item where
 n:=k
 T:=fun _ _ l=>l.length=k ∧ ∀ v∈l,okCell v=true
 step:=fun _ _ h=>h
 len:=fun h=>h.1
 one:=fun h=>h.2
def pn (n d:Int):Int:=if d=0 then 0 else if d < 0 then -n else n
def pd (d:Int):Int:=if d=0 then 1 else if d < 0 then -d else d
theorem GE (d:Int):0 < pd d:=by unfold pd;split <;> (try split) <;> omega
theorem L2 (n d:Int):Rat.divInt (pn n d) (pd d)=Rat.divInt n d:=by
 unfold pn pd;split
 ·rename_i h;subst h;rw[Rat.divInt_zero,Rat.zero_divInt]
 ·split
  ·exact PI n d
  ·rfl
section
variable {I:WInv}{n d n' d':Int}
abbrev fr (q1 q2:IntP):CT := .ag (ip q1++ip q2)
abbrev wds (x y:Int):CT := .ag [.i x,.i y]
abbrev S31 (z:Int):Prop := -2147483648 < z∧z < 2147483648
theorem D7 (hn:S31 n)(hd:S31 d):Sp Tryz.prog I 191 [fr (sP n) (sP d)] (.tu [wds (pn n d) (pd d),cb true]):=by
 by_cases h0:d=0
 ·subst h0
  exact sr 40 [po (Cv (z:=0)),po (Cv (z:=n)),pk (AO 2 0 0 true rfl)]
 ·by_cases h1:d < 0
  ·have e1:pn n d = -n:=by unfold pn;rw[if_neg h0,if_pos h1]
   have e2:pd d = -d:=by unfold pd;rw[if_neg h0,if_pos h1]
   rw[e1,e2];exact sr 40 [po (Cv (z:=d)),po (Cv (z:=n)),pk (AO 2 d 0 false (decide_eq_false h0)),pk (CK 2 d 0 true (decide_eq_true h1)),pk (TP n ⟨by omega,by omega⟩),pk (TP d ⟨by omega,by omega⟩)]
  ·have e1:pn n d=n:=by unfold pn;rw[if_neg h0,if_neg h1]
   have e2:pd d=d:=by unfold pd;rw[if_neg h0,if_neg h1]
   rw[e1,e2];exact sr 40 [po (Cv (z:=d)),po (Cv (z:=n)),pk (AO 2 d 0 false (decide_eq_false h0)),pk (CK 2 d 0 false (decide_eq_false h1))]
theorem G6 {q:IntP}:Sp Tryz.prog I 191 [fr q (lP d)] (.tu [wds 0 0,cb false]) :=
 sr 40 [po (JJ (z:=d))]
theorem G5:Sp Tryz.prog I 191 [fr (lP n) (sP d)] (.tu [wds 0 0,cb false]) :=
 sr 40 [po (Cv (z:=d)),po (JJ (z:=n))]
theorem Hi (hn:S31 n)(hd:S31 d)(hn':S31 n')(hd':S31 d'):Sp Tryz.prog I 163 [fr (sP n) (sP d),fr (sP n') (sP d')] (.tu [wds (pn n d) (pd d),wds (pn n' d') (pd d'),cb true]) :=
 sr 24 [po (D7 hn hd),po (D7 hn' hd')]
abbrev Z8:CT := .ag [.b (.it (AdW 2))]
abbrev H6 (I:WInv)(q1 q2 q3 q4:IntP):Prop:=Sp Tryz.prog I 163 [fr q1 q2,fr q3 q4] (.tu [Z8,Z8,cb false])
theorem TN {N:Nat→Prop}{w:World}{x y:Int}{v:Value}(h:(wds x y).sem N w G0 v):Z8.sem N w G0 v:=by
 obtain ⟨vs,e,l1,l2,e1,h1,l3,l4,e2,h3,h4⟩:=h;rw[show l4=[] from h4,show l3=_ from h3] at e2;rw[show l1=_ from h1,e2] at e1;refine ⟨vs,e,Cb ?_⟩;rw[e1];exact ⟨rfl,by intro v hv;simp at hv;rcases hv with rfl | rfl <;> rfl⟩
theorem LW {f:FuncId}{args:List CT}{a b c d:Int}(h:Sp Tryz.prog I f args (.tu [wds a b,wds c d,cb false])):Sp Tryz.prog I f args (.tu [Z8,Z8,cb false]) :=
 h.res fun N w v ⟨vs,e,x,l,e1,h1,y,l',e2,h2,h3⟩=>⟨vs,e,x,l,e1,TN h1,y,l',e2,TN h2,h3⟩
theorem V5 {q q3 q4:IntP}:H6 I q (lP d) q3 q4 :=
 LW (a:=0) (b:=0) (c:=0) (d:=0) (sr 24 [po (G6 (q:=q) (d:=d))])
theorem V4 {q3 q4:IntP}:H6 I (lP n) (sP d) q3 q4 :=
 LW (a:=0) (b:=0) (c:=0) (d:=0) (sr 24 [po (G5 (n:=n) (d:=d))])
theorem V3 {q:IntP}(hn:S31 n)(hd:S31 d):H6 I (sP n) (sP d) q (lP d') :=
 LW (a:=pn n d) (b:=pd d) (c:=0) (d:=0) (sr 24 [po (D7 hn hd),po (G6 (q:=q) (d:=d'))])
theorem V2 (hn:S31 n)(hd:S31 d):H6 I (sP n) (sP d) (lP n') (sP d') :=
 LW (a:=pn n d) (b:=pd d) (c:=0) (d:=0) (sr 24 [po (D7 hn hd),po (G5 (n:=n') (d:=d'))])
theorem RS {q1 q2:IntP}{N:Nat→Prop}{w:World}{v:Value}(h:(fr q1 q2).sem N w G0 v) : ∃ l m,v = .agg (l++m).toArray∧Bi N w G0 (ip q1) l∧Bi N w G0 (ip q2) m:=by
 obtain ⟨vs,e,h⟩:=h;obtain ⟨l,m,e2,h1,h2⟩:=Jt h;exact ⟨l,m,by rw[e,e2],h1,h2⟩
theorem Mg {q1 q2:IntP}{N:Nat→Prop}{w:World}{l m:List Value}(h1:Bi N w G0 (ip q1) l)(h2:Bi N w G0 (ip q2) m):(fr q1 q2).sem N w G0 (.agg (l++m).toArray):=⟨_,rfl,C8 h1 h2⟩
theorem Lu {N:Nat→Prop}{w:World}{l:List Value}(h:Bi N w G0 (ip (sP n)) l):S31 n:=by
 obtain ⟨s,A,k,c,e,h⟩:=C5 h;exact Adx h
theorem Ov {f:FuncId}{res:TV}{q1 q2 q3 q4:IntP}(h1:Num (ip q1) n)(h2:Num (ip q2) d)(h3:Num (ip q3) n')(h4:Num (ip q4) d')
  (hs:S31 n→S31 d→S31 n'→S31 d'→Sp Tryz.prog I f [fr (sP n) (sP d),fr (sP n') (sP d')] res)
  (hl : ∀ p1 p2 p3 p4,Num (ip p1) n→Num (ip p2) d→Num (ip p3) n'→Num (ip p4) d'→H6 I p1 p2 p3 p4→Sp Tryz.prog I f [fr p1 p2,fr p3 p4] res):Sp Tryz.prog I f [fr q1 q2,fr q3 q4] res:=by
 intro N w vs hI hlow hv;obtain ⟨v,r,rfl,hv1,u,r2,rfl,hv2,hr⟩:=hv;rw[show r2=[] from hr];obtain ⟨l1,m1,rfl,a1,a2⟩:=RS hv1;obtain ⟨l2,m2,rfl,a3,a4⟩:=RS hv2;have go : ∀ {p1 p2 p3 p4},Num (ip p1) n→Num (ip p2) d→Num (ip p3) n'→Num (ip p4) d'→H6 I p1 p2 p3 p4→Bi N w G0 (ip p1) l1→Bi N w G0 (ip p2) m1→Bi N w G0 (ip p3) l2→Bi N w G0 (ip p4) m2→Calls Tryz.prog f [Value.agg (l1++m1).toArray,.agg (l2++m2).toArray].toArray w fun e w' => ∃ v,e = .returned v∧res.sem (Nx N w w') w' G0 v∧Below w.heap.size w w' :=
  fun k1 k2 k3 k4 hno b1 b2 b3 b4=>hl _ _ _ _ k1 k2 k3 k4 hno N w _ hI hlow ⟨_,_,rfl,Mg b1 b2,_,_,rfl,Mg b3 b4,rfl⟩
 rcases JI h2 a2 with b2 | b2
 ·rcases JI h1 a1 with b1 | b1
  ·rcases JI h4 a4 with b4 | b4
   ·rcases JI h3 a3 with b3 | b3
    ·exact hs (Lu b1) (Lu b2) (Lu b3) (Lu b4) N w _ hI hlow ⟨_,_,rfl,Mg b1 b2,_,_,rfl,Mg b3 b4,rfl⟩
    ·exact go KT KT PP KT (V2 (Lu b1) (Lu b2)) b1 b2 b3 b4
   ·exact go KT KT h3 PP (V3 (Lu b1) (Lu b2)) b1 b2 a3 b4
  ·exact go PP KT h3 h4 V4 b1 b2 a3 a4
 ·exact go h1 PP h3 h4 V5 a1 b2 a3 a4
abbrev iy (z:Int):IntP:=aP 1048576 z
theorem B7 (z:Int):Num (ip (iy z)) z:=Ga (Nat.le_refl _)
theorem RJ {x:List It}{z:Int}(h:Num x z){N:Nat→Prop}{w:World}{v:Value}(hv:(CT.ag x).sem N w G0 v):(CT.ag (ip (iy z))).sem N w G0 v:=by
 obtain ⟨vs,e,h1⟩:=hv;obtain ⟨s,A,n,c,e2,h2,h3⟩:=h N w vs h1;exact ⟨vs,e,Cb ⟨s,A,n,c,e2,h2,h3⟩⟩
theorem KJ {f:FuncId}{args:List CT}{x y:List It}{a b:Int}(h:Sp Tryz.prog I f args (.tu [.ag x,.ag y]))(hx:Num x a)(hy:Num y b):Sp Tryz.prog I f args (.tu [.ag (ip (iy a)),.ag (ip (iy b))]) :=
 h.res fun N w v ⟨vs,e,u,l,e1,h1,u2,l2,e2,h2,h3⟩=>⟨vs,e,u,l,e1,RJ hx h1,u2,l2,e2,RJ hy h2,h3⟩
end
section
variable {I:WInv}{q1 q2:IntP}{n d:Int}
theorem VT (h1:Num (ip q1) n)(h2:Num (ip q2) d)(hd:0 < d):Sp Tryz.prog I 89 [.ag (ip q1++ip q2)] (.tu [.ag (ip q1),.ag (ip q2)]) :=
 sr 23 [po (BL 1 h2 (Int.sign_eq_one_of_pos hd))]
theorem VU (h1:Num (ip q1) n)(h2:Num (ip q2) d)(hd:d < 0):Sp Tryz.prog I 89 [.ag (ip q1++ip q2)] (.tu [.ag (ic (-n)),.ag (ic (-d))]) :=
 sr 23 [po (BL (-1) h2 (Int.sign_eq_neg_one_of_neg hd)),po (Gd h1),po (Gd h2)]
theorem SV (h2:Num (ip q2) 0):Sp Tryz.prog I 89 [.ag (ip q1++ip q2)] (.tu [.ag NZ,.ag (ic 1)]) :=
 sr 23 [po (BL 0 h2 rfl),po (GR 1 (by omega) (by omega))]
end
abbrev frc (q:Rat):CT:=fr (cP q.num) (cP (q.den:Int))
abbrev tfr (q:Rat):TV := .cv (frc q)
theorem Xo (b a:Nat):(b:Int).tmod (a:Int)=((b % a:Nat):Int):=by
 rw[Int.tmod_eq_emod_of_nonneg (by omega),Int.natCast_emod]
def wst (x y a b:Int):St:=⟨[(0,li x),(1,li y),(4,.p 0 0),(5,li a),(6,li b)],[(0,some ⟨26,none,NZ++NZ⟩)],50⟩
section
variable {I:WInv}
theorem Mu (x y:Int)(a0 b0:Nat):LoopTr Tryz.prog I 28 (AK Tryz.prog 128 0) (wst x y a0 b0) (.exit 0) (wst x y 0 (Nat.gcd a0 b0:Nat)):=by
 refine Ka (ι:=Nat×Nat) (by simp) (fun i=>wst x y i.1 i.2) (fun i=>i.1) (fun i=>Nat.gcd i.1 i.2=Nat.gcd a0 b0) (a0,b0) rfl ?_
 rintro ⟨a,b⟩ hg
 change Nat.gcd a b=Nat.gcd a0 b0 at hg
 by_cases ha:a=0
 ·subst ha
  right;rw[Nat.gcd_zero_left] at hg;rw[←hg];exact rr [pk (D3 2 ((0:Nat):Int) 0 false rfl)]
 ·left
  refine ⟨(b % a,a),?_,Nat.mod_lt _ (by omega),?_⟩
  ·show Nat.gcd (b % a) a=Nat.gcd a0 b0
   rw[←Nat.gcd_rec,hg]
  ·have h:Rnd Tryz.prog I 28 (AK Tryz.prog 128 0) (wst x y a b) .normal (wst x y ((b:Int).tmod (a:Int)) a) :=
    rr [pk (D3 2 (a:Int) 0 true (decide_eq_false (by omega))),pk (DJ 2 (b:Int) (a:Int) (by omega))]
   rw[Xo] at h;exact h
theorem Xp {n d:Int}(hd:0 < d):n.tdiv (Nat.gcd n.natAbs d.natAbs:Nat)=(Rat.divInt n d).num:=by
 rw[Dz hd,Int.fdiv_eq_ediv_of_nonneg _ (Int.natCast_nonneg _)];refine Int.tdiv_eq_ediv_of_dvd ?_;have:=Int.gcd_dvd_left (a:=n) (b:=d);exact this
theorem Xq {n d:Int}(hd:0 < d):d.tdiv (Nat.gcd n.natAbs d.natAbs:Nat)=((Rat.divInt n d).den:Int):=by
 rw[D0 hd,Int.fdiv_eq_ediv_of_nonneg _ (Int.natCast_nonneg _)];refine Int.tdiv_eq_ediv_of_dvd ?_;have:=Int.gcd_dvd_right (a:=n) (b:=d);exact this
theorem TK (n d:Int)(h:R64 n)(h' : -9223372036854775808 < n):R64 (Rat.divInt n d).num:=by
 have:=Yb n d;constructor <;> omega
theorem YZ {n d:Int}(hd:0 < d)(h:R64 d):R64 ((Rat.divInt n d).den:Int):=by
 have:=Za (n:=n) (d:=d) (by omega)
 constructor <;> omega
theorem Ki (x y:Int)(hx : -9223372036854775808 < x∧x≤9223372036854775807)(hy:0 < y∧y≤9223372036854775807):Sp Tryz.prog I 128 [ci x,ci y] (tfr (Rat.divInt x y)):=by
 have hg0:((Nat.gcd x.natAbs y.natAbs:Nat):Int)≠0:=Le (by omega)
 have e1:=Xp (n:=x) hy.1;have e2:=Xq (n:=x) hy.1;have r1:=TK x y ⟨by omega,by omega⟩ hx.1
 have r2:=YZ (n:=x) hy.1 ⟨by omega,by omega⟩
 rw[←e1] at r1;rw[←e2] at r2;unfold tfr frc;rw[←e1,←e2];have hyn:y=((y.natAbs:Nat):Int):=by omega
 by_cases h0:x < 0
 ·have hl:=Mu (I:=I) x y x.natAbs y.natAbs
  have ha:((x.natAbs:Nat):Int) = -x:=by omega
  rw[ha,←hyn] at hl;exact sr 28 [pk (CK 2 x 0 true (decide_eq_true h0)),pk (TP x ⟨by omega,by omega⟩),pl hl,pk (S0 2 x _ hg0 r1),po (GR _ r1.1 r1.2),pk (S0 2 y _ hg0 r2),po (GR _ r2.1 r2.2)]
 ·have hl:=Mu (I:=I) x y x.natAbs y.natAbs
  have ha:((x.natAbs:Nat):Int)=x:=by omega
  rw[ha,←hyn] at hl;exact sr 28 [pk (CK 2 x 0 false (decide_eq_false h0)),pl hl,pk (S0 2 x _ hg0 r1),po (GR _ r1.1 r1.2),pk (S0 2 y _ hg0 r2),po (GR _ r2.1 r2.2)]
variable {q1 q2:IntP}{n d:Int}
theorem FB (h1:Num (ip q1) n)(h2:Num (ip q2) d)(hk1:Lim 1048576 n)(hk2:Lim 1048576 d):Sp Tryz.prog I 89 [fr q1 q2] (.tu [.ag (ip (iy (pn n d))),.ag (ip (iy (pd d)))]):=by
 rcases Int.lt_trichotomy d 0 with hd | hd | hd
 ·have e1:pn n d = -n:=by unfold pn;rw[if_neg (by omega),if_pos hd]
  have e2:pd d = -d:=by unfold pd;rw[if_neg (by omega),if_pos hd]
  rw[e1,e2];exact KJ (VU h1 h2 hd) (Bj hk1.neg (Nat.le_refl _)) (Bj hk2.neg (Nat.le_refl _))
 ·subst hd
  exact KJ (SV h2) PN (Bj (Fi (by omega):Lim 1 1) (by omega))
 ·have e1:pn n d=n:=by unfold pn;rw[if_neg (by omega),if_neg (by omega)]
  have e2:pd d=d:=by unfold pd;rw[if_neg (by omega),if_neg (by omega)]
  rw[e1,e2];exact KJ (VT h1 h2 hd) h1 h2
theorem Ms {d:Int}:Rat.divInt 0 d=Rat.divInt 0 1:=by rw[Rat.zero_divInt,Rat.zero_divInt]
theorem Vg:Sp Tryz.prog I 128 [ci 0,ci 1] (tfr (Rat.divInt 0 1)):=Ki 0 1 ⟨by omega,by omega⟩ ⟨by omega,by omega⟩
theorem Db (h1:Num (ip q1) n)(h2:Num (ip q2) d)(hk1:Lim 1048576 n)(hk2:Lim 1048576 d)(hd:d≠0):Sp Tryz.prog I 90 [.ag (ip q1),.ag (ip q2)] (tfr (Rat.divInt n d)):=by
 by_cases hn:n=0
 ·subst hn
  rw[Ms];exact sr 43 [po (BL 0 h1 rfl),po Vg]
 ·have hs : ∃ k,n.sign=k∧(k=1∨k = -1):=by
   rcases Int.lt_trichotomy n 0 with h | h | h
   ·exact ⟨-1,Int.sign_eq_neg_one_of_neg h,.inr rfl⟩
   ·exact absurd h hn
   ·exact ⟨1,Int.sign_eq_one_of_pos h,.inl rfl⟩
  obtain ⟨k,hk,hkv⟩:=hs;rcases Int.lt_trichotomy d 0 with hdd | hdd | hdd
  ·have m1:Num (ic (-n)) (-n):=Bj hk1.neg (Nat.le_refl _)
   have m2:Num (ic (-d)) (-d):=Bj hk2.neg (Nat.le_refl _);have hp:0 < -d:=by omega
   have hg:=Le (n := -n) (d := -d) (by omega)
   have gl:Lim 1048576 ((Nat.gcd (-n).natAbs (-d).natAbs:Nat):Int):=Fl hk2.neg (by omega)
   have mg:Num (ic ((Nat.gcd (-n).natAbs (-d).natAbs:Nat):Int)) _:=Bj gl (Nat.le_refl _);rw[←PI n d];unfold tfr frc;rw[Dz hp,D0 hp];rcases hkv with rfl | rfl
   ·exact sr 43 [po (BL 1 h1 hk),po (BL (-1) h2 (Int.sign_eq_neg_one_of_neg hdd)),po (Gd h1),po (Gd h2),po (Qj m1 m2),po (Kq m1 mg hg),po (Kq m2 mg hg)]
   ·exact sr 43 [po (BL (-1) h1 hk),po (BL (-1) h2 (Int.sign_eq_neg_one_of_neg hdd)),po (Gd h1),po (Gd h2),po (Qj m1 m2),po (Kq m1 mg hg),po (Kq m2 mg hg)]
  ·exact absurd hdd hd
  ·have hg:=Le (n:=n) (d:=d) (by omega)
   have gl:Lim 1048576 ((Nat.gcd n.natAbs d.natAbs:Nat):Int):=Fl hk2 (by omega)
   have mg:Num (ic ((Nat.gcd n.natAbs d.natAbs:Nat):Int)) _:=Bj gl (Nat.le_refl _);unfold tfr frc;rw[Dz hdd,D0 hdd];rcases hkv with rfl | rfl
   ·exact sr 43 [po (BL 1 h1 hk),po (BL 1 h2 (Int.sign_eq_one_of_pos hdd)),po (Qj h1 h2),po (Kq h1 mg hg),po (Kq h2 mg hg)]
   ·exact sr 43 [po (BL (-1) h1 hk),po (BL 1 h2 (Int.sign_eq_one_of_pos hdd)),po (Qj h1 h2),po (Kq h1 mg hg),po (Kq h2 mg hg)]
end
theorem R4 {a b:Int}(ha:S31 a)(hb:S31 b) : -4611686018427387904 < a*b∧a*b < 4611686018427387904:=by
 have h1:a.natAbs < 2147483648:=by omega
 have h2:b.natAbs < 2147483648:=by omega
 have h3:(a*b).natAbs < 2147483648*2147483648:=by
  rw[Int.natAbs_mul];exact Nat.mul_lt_mul_of_lt_of_le h1 (Nat.le_of_lt h2) (by omega)
 omega
theorem Aan {n:Int}(h:S31 n)(d:Int):S31 (pn n d):=by
 unfold pn;split
 ·exact ⟨by omega,by omega⟩
 ·split <;> exact ⟨by omega,by omega⟩
theorem VQ {d:Int}(h:S31 d):S31 (pd d):=by
 unfold pd;split
 ·exact ⟨by omega,by omega⟩
 ·split <;> exact ⟨by omega,by omega⟩
theorem KQ {k:Nat}{n:Int}(h:Lim k n)(d:Int):Lim k (pn n d):=by
 unfold pn;split
 ·exact GN k
 ·split
  ·exact h.neg
  ·exact h
theorem Na {k:Nat}{d:Int}(h:Lim k d)(hk:0 < k):Lim k (pd d):=by
 unfold pd;split
 ·exact Fi hk
 ·split
  ·exact h.neg
  ·exact h
theorem Rq (d:Int):pd d≠0:=by have:=GE d;omega
theorem LX {a b c d:Int}(hb:b≠0)(hd:d≠0):Rat.divInt (a*d+c*b) (b*d)=Rat.divInt a b+Rat.divInt c d:=(Rat.divInt_add_divInt a c hb hd).symm
theorem Aak (a b c d:Int):Rat.divInt (a*c) (b*d)=Rat.divInt a b*Rat.divInt c d:=(Rat.divInt_mul_divInt a c).symm
theorem Aal (a b c d:Int):Rat.divInt (a*d) (b*c)=Rat.divInt a b / Rat.divInt c d:=by
 rw[Rat.div_def,Rat.inv_divInt,Rat.divInt_mul_divInt]
theorem XQ {a c b:Int}(hb:b≠0):Rat.divInt (a+c) b=Rat.divInt a b+Rat.divInt c b:=by
 rw[Rat.divInt_add_divInt a c hb hb,←Int.add_mul,Rat.divInt_mul_right hb]
def CJ (a b:Rat):Int:=if a < b then -1 else if a=b then 0 else 1
theorem Uo {d:Int}(h:0 < d):(0:Rat) < (d:Rat):=Rat.intCast_pos.2 h
theorem Zn {a b c d:Int}(hb:0 < b)(hd:0 < d):CO (a*d) (c*b)=CJ (Rat.divInt a b) (Rat.divInt c d):=by
 have hb':=Uo hb;have hd':=Uo hd;have e1:Rat.divInt a b*(b:Rat)=(a:Rat):=by rw[Rat.divInt_eq_div,Rat.div_mul_cancel (Rat.ne_of_gt hb')]
 have e2:Rat.divInt c d*(d:Rat)=(c:Rat):=by rw[Rat.divInt_eq_div,Rat.div_mul_cancel (Rat.ne_of_gt hd')]
 have hp:=Rat.mul_pos hb' hd';have k1:((a*d:Int):Rat)=Rat.divInt a b*((b:Rat)*(d:Rat)):=by
  rw[Rat.intCast_mul,←e1];grind
 have k2:((c*b:Int):Rat)=Rat.divInt c d*((b:Rat)*(d:Rat)):=by
  rw[Rat.intCast_mul,←e2];grind
 have l1:a*d < c*b↔Rat.divInt a b < Rat.divInt c d:=by
  rw[←Rat.intCast_lt_intCast,k1,k2,Rat.mul_lt_mul_right hp]
 have l2:a*d=c*b↔Rat.divInt a b=Rat.divInt c d:=by
  rw[←Rat.intCast_inj,k1,k2];constructor
  ·intro h
   have:=congrArg (· / ((b:Rat)*(d:Rat))) h;simp only[Rat.mul_div_cancel (Rat.ne_of_gt hp)] at this;exact this
  ·intro h;rw[h]
 unfold CO CJ;by_cases h1:a*d < c*b
 ·rw[if_pos h1,if_pos (l1.1 h1)]
 ·rw[if_neg h1,if_neg (fun h=>h1 (l1.2 h))]
  by_cases h2:a*d=c*b
  ·rw[if_pos h2,if_pos (l2.1 h2)]
  ·rw[if_neg h2,if_neg (fun h=>h2 (l2.2 h))]
structure Fk (q1 q2:IntP) (n d:Int) (k:Nat):Prop where
 a:Num (ip q1) n
 b:Num (ip q2) d
 ln:Lim k n
 ld:Lim k d
 k0:0 < k
 k1:k≤262144
theorem Fk.big {q1 q2:IntP}{n d:Int}{k:Nat}(h:Fk q1 q2 n d k):Lim 1048576 n∧Lim 1048576 d:=⟨h.ln.mono (by have:=h.k1;omega),h.ld.mono (by have:=h.k1;omega)⟩
section
variable {I:WInv}{q1 q2 q3 q4:IntP}{n d n' d':Int}{k k':Nat}
theorem ny {z:Int}{j:Nat}(h:Lim j z)(hj:j≤1048576):Num (ic z) z:=Bj h hj
theorem Abn (h1:Fk q1 q2 n d k)(h2:Fk q3 q4 n' d' k')(hk:k+k'≤262144):Sp Tryz.prog I 126 [fr q1 q2,fr q3 q4] (tfr (Rat.divInt n d+Rat.divInt n' d')):=by
 have y1:=GE d;have y2:=GE d';have l1:=KQ h1.ln d;have l2:=Na h1.ld h1.k0;have l3:=KQ h2.ln d';have l4:=Na h2.ld h2.k0;have e:=LX (a:=pn n d) (c:=pn n' d') (Rq d) (Rq d');rw[L2,L2] at e;refine Ov h1.a h1.b h2.a h2.b ?_ ?_
 ·intro s1 s2 s3 s4
  have b1:=R4 (Aan s1 d) (VQ s4);have b2:=R4 (Aan s3 d') (VQ s2);have b3:=R4 (VQ s2) (VQ s4);have p3:=Int.mul_pos y1 y2;rw[←e];exact sr 67 [po (Hi s1 s2 s3 s4),pk (Jo 2 (pn n d) (pd d') ⟨by omega,by omega⟩),pk (Jo 2 (pn n' d') (pd d) ⟨by omega,by omega⟩),pk (Ay 2 (pn n d*pd d') (pn n' d'*pd d) ⟨by omega,by omega⟩),pk (Jo 2 (pd d) (pd d') ⟨by omega,by omega⟩),po (Ki (pn n d*pd d'+pn n' d'*pd d) (pd d*pd d') ⟨by omega,by omega⟩ ⟨p3,by omega⟩)]
 ·intro p1 p2 p3 p4 m1 m2 m3 m4 hno
  have a1:=FB (I:=I) m1 m2 h1.big.1 h1.big.2;have a2:=FB (I:=I) m3 m4 h2.big.1 h2.big.2;by_cases he:pd d=pd d'
  ·have hl:Lim (k+k'+1) (pn n d+pn n' d'):=(l1.mono (by omega)).add (l3.mono (by omega))
   have e2:=XQ (a:=pn n d) (c:=pn n' d') (Rq d);rw[L2,he,L2] at e2;rw[←e2,←he];exact sr 67 [po hno,po a1,po a2,po (Qr 0 (B7 (pd d)) (B7 (pd d')) (UO he)),po (J7 (B7 (pn n d)) (B7 (pn n' d'))),po (Db (ny hl (by omega)) (B7 (pd d)) (hl.mono (by omega)) (l2.mono (by have:=h1.k1;omega)) (Rq d))]
  ·have hl1:=l1.mul l4
   have hl2:=l3.mul l2;have hl3:=l2.mul l4;have hl:Lim (k+k'+1) (pn n d*pd d'+pn n' d'*pd d):=hl1.add (hl2.mono (by omega))
   rw[←e];have go : ∀ c,CO (pd d) (pd d')=c→(c=1∨c = -1)→Sp Tryz.prog I 126 [fr p1 p2,fr p3 p4] (tfr (Rat.divInt (pn n d*pd d'+pn n' d'*pd d) (pd d*pd d'))):=by
    rintro c hc (rfl | rfl)
    ·exact sr 67 [po hno,po a1,po a2,po (Qr 1 (B7 (pd d)) (B7 (pd d')) hc),po (Fs (B7 (pn n d)) (B7 (pd d'))),po (Fs (B7 (pn n' d')) (B7 (pd d))),po (J7 (ny hl1 (by omega)) (ny hl2 (by omega))),po (Fs (B7 (pd d)) (B7 (pd d'))),po (Db (ny hl (by omega)) (ny hl3 (by omega)) (hl.mono (by omega)) (hl3.mono (by omega)) (by have:=Int.mul_pos y1 y2;omega))]
    ·exact sr 67 [po hno,po a1,po a2,po (Qr (-1) (B7 (pd d)) (B7 (pd d')) hc),po (Fs (B7 (pn n d)) (B7 (pd d'))),po (Fs (B7 (pn n' d')) (B7 (pd d))),po (J7 (ny hl1 (by omega)) (ny hl2 (by omega))),po (Fs (B7 (pd d)) (B7 (pd d'))),po (Db (ny hl (by omega)) (ny hl3 (by omega)) (hl.mono (by omega)) (hl3.mono (by omega)) (by have:=Int.mul_pos y1 y2;omega))]
   rcases Int.lt_trichotomy (pd d) (pd d') with h | h | h
   ·exact go _ (Qp h) (.inr rfl)
   ·exact absurd h he
   ·exact go _ (Qq h) (.inl rfl)
theorem AaW (c:Int)(h1:Fk q1 q2 n d k)(h2:Fk q3 q4 n' d' k')(hk:k+k'≤262144)(hc:CJ (Rat.divInt n d) (Rat.divInt n' d')=c):Sp Tryz.prog I 161 [fr q1 q2,fr q3 q4] (li c):=by
 have y1:=GE d;have y2:=GE d';have hl1:=(KQ h1.ln d).mul (Na h2.ld h2.k0);have hl2:=(KQ h2.ln d').mul (Na h1.ld h1.k0);have e:=Zn (a:=pn n d) (c:=pn n' d') y1 y2;rw[L2,L2,hc] at e;refine Ov h1.a h1.b h2.a h2.b ?_ ?_
 ·intro s1 s2 s3 s4
  have b1:=R4 (Aan s1 d) (VQ s4);have b2:=R4 (Aan s3 d') (VQ s2);rcases Int.lt_trichotomy (pn n d*pd d') (pn n' d'*pd d) with h | h | h
  ·rw[Qp h] at e
   subst e;exact sr 57 [po (Hi s1 s2 s3 s4),pk (Jo 2 (pn n d) (pd d') ⟨by omega,by omega⟩),pk (Jo 2 (pn n' d') (pd d) ⟨by omega,by omega⟩),pk (CK 2 (pn n d*pd d') (pn n' d'*pd d) true (decide_eq_true h))]
  ·rw[UO h] at e
   subst e;exact sr 57 [po (Hi s1 s2 s3 s4),pk (Jo 2 (pn n d) (pd d') ⟨by omega,by omega⟩),pk (Jo 2 (pn n' d') (pd d) ⟨by omega,by omega⟩),pk (CK 2 (pn n d*pd d') (pn n' d'*pd d) false (decide_eq_false (by omega))),pk (Dj 2 (pn n d*pd d') (pn n' d'*pd d) false (decide_eq_false (by omega)))]
  ·rw[Qq h] at e
   subst e;exact sr 57 [po (Hi s1 s2 s3 s4),pk (Jo 2 (pn n d) (pd d') ⟨by omega,by omega⟩),pk (Jo 2 (pn n' d') (pd d) ⟨by omega,by omega⟩),pk (CK 2 (pn n d*pd d') (pn n' d'*pd d) false (decide_eq_false (by omega))),pk (Dj 2 (pn n d*pd d') (pn n' d'*pd d) true (decide_eq_true h))]
 ·intro p1 p2 p3 p4 m1 m2 m3 m4 hno
  have a1:=FB (I:=I) m1 m2 h1.big.1 h1.big.2;have a2:=FB (I:=I) m3 m4 h2.big.1 h2.big.2;exact sr 57 [po hno,po a1,po a2,po (Fs (B7 (pn n d)) (B7 (pd d'))),po (Fs (B7 (pn n' d')) (B7 (pd d))),po (Qr c (ny hl1 (by omega)) (ny hl2 (by omega)) e)]
theorem ZW (n d:Int):R64 (n.sign*d.sign):=by
 rcases Int.lt_trichotomy n 0 with h | h | h <;> rcases Int.lt_trichotomy d 0 with h' | h' | h' <;>
  simp[h,h',Int.sign_eq_one_of_pos,Int.sign_eq_neg_one_of_neg] <;> exact ⟨by omega,by omega⟩
theorem X2 (n d:Int):n.sign*d.sign=(Rat.divInt n d).num.sign:=by
 rw[Rat.num_divInt];by_cases hd:d=0
 ·subst hd;simp
 ·have hg:((d.gcd n:Nat):Int) ∣ d.sign*n:=Int.dvd_trans (Int.gcd_dvd_right ..) (Int.dvd_mul_left _ _)
  have hp:0 < ((d.gcd n:Nat):Int):=by
   have:0 < d.gcd n:=Int.gcd_pos_of_ne_zero_left n hd;omega
  obtain ⟨c,hc⟩:=hg;have h1:(d.sign*n).sign=n.sign*d.sign:=by
   rw[Int.sign_mul,Int.sign_sign,Int.mul_comm]
  rw[hc,Int.mul_ediv_cancel_left _ (by omega),←h1,hc,Int.sign_mul,Int.sign_eq_one_of_pos hp,Int.one_mul]
theorem X1 (c:Int)(h1:Fk q1 q2 n d k)(hc:(Rat.divInt n d).num.sign=c):Sp Tryz.prog I 86 [fr q1 q2] (li c):=by
 subst hc;rw[←X2];exact sr 10 [po (BL n.sign h1.a rfl),po (BL d.sign h1.b rfl),pk (Jo 3 n.sign d.sign (ZW n d))]
end
def slI (sz:Nat)(rows:List (List It0)):Item where
 n:=1
 T:=fun N w l => ∃ A c,l=[.slice A rows.length c]∧rows.length≤c∧c≤maxLen∧(rows≠[] → ∃ b off,A=some ⟨b,off,none⟩ ∧ ∀ i r,rows[i]? = some r→RowAt N w b (off+i*sz) r)
 step:=fun hw hN ⟨A,c,e,h1,h2,h3⟩=>⟨A,c,e,h1,h2,fun hr=>let ⟨b,off,hA,h⟩:=h3 hr;⟨b,off,hA,fun i r hi=>(h i r hi).step hw hN⟩⟩
 len:=fun ⟨A,c,e,_⟩=>by rw[e];rfl
 one:=fun ⟨A,c,e,_⟩=>by rw[e];intro v hv;simp at hv;subst hv;rfl
def Ce (l:List It0):Nat:=(l.map It0.n).sum
theorem Mw (l:List It0):Cf (l.map It.b)=Ce l:=by simp only[Cf,Ce,List.map_map];rfl
theorem Lt {N:Nat→Prop}{w:World} : ∀ {xs ys:List It0} {l:List Value},Dy N w (xs++ys) l → ∃ l1 l2,l=l1++l2∧Dy N w xs l1∧Dy N w ys l2
 | [],_,l,h=>⟨[],l,rfl,rfl,h⟩
 | x::xs,_,l,⟨a,b,e,h1,h2⟩=>by
  obtain ⟨c,d,e2,h3,h4⟩:=Lt h2;exact ⟨a++c,d,by rw[e,e2,List.append_assoc],⟨a,c,rfl,h1,h3⟩,h4⟩
theorem Hm {N:Nat→Prop}{w:World}{xs:List It0}{l:List Value}(h:Dy N w xs l):l.length=Ce xs:=by
 have:=F7 (g:=G0) (Dv h);rw[this,Mw]
theorem P8 {N:Nat→Prop}{w:World}{sz:Nat} : ∀ {rows:List (List It0)} {vs:List Value},(∀ r∈rows,Ce r=sz)→Dy N w rows.flatten vs→vs.length=rows.length*sz ∧ ∀ i r,rows[i]? = some r→Dy N w r ((vs.drop (i*sz)).take sz)
 | [],vs,_,h=>by rw[show vs=[] from h];exact ⟨by simp,fun i r hi=>by simp at hi⟩
 | q::rows,vs,hw,h=>by
  obtain ⟨l1,l2,e,h1,h2⟩:=Lt (xs:=q) (ys:=rows.flatten) h;have hl:=Hm h1;rw[hw q (by simp)] at hl
  obtain ⟨k1,k2⟩:=P8 (fun r hr=>hw r (by simp[hr])) h2
  refine ⟨by rw[e,List.length_append,hl,k1,List.length_cons,Nat.add_mul];omega,fun i r hi => ?_⟩
  cases i with
  | zero =>
   simp at hi;subst hi;rw[e,Nat.zero_mul,List.drop_zero,List.take_append_of_le_length (by omega),List.take_of_length_le (by omega)]
   exact h1
  | succ i =>
   simp at hi;have:=k2 i r hi;have e2:(vs.drop ((i+1)*sz))=l2.drop (i*sz):=by
    rw[e,Nat.add_mul,Nat.one_mul,Nat.add_comm,←List.drop_drop,←hl,List.drop_left]
   rw[e2];exact this
section
variable {P:Program}{I:WInv}
theorem Acg (t e ty:TypeId)(sz:Nat)(rows:List (List It0))(ht:P.underlying t=some (.slice e)):Bx P (.len #[t] ty) [tit (slI sz rows)] (li rows.length):=by
 intro N w g vs hv;obtain ⟨v,rfl,A,c,e1,h⟩:=ED hv;injection e1 with e1;subst e1;exact ⟨_,w,by simp[OpK.run,Builtin.len_,AP ht,goInt],Below.refl _ _,(rfl:[_]=[_])⟩
theorem Ach (t e:TypeId)(sz:Nat)(rows:List (List It0))(i:Nat)(z:Int)(r:List It0)(ht:P.underlying t=some (.slice e))(hs:Ci P e=some sz)(hz:z=(i:Int))(hr:rows[i]? = some r):Bx P (.idxA t) [tit (slI sz rows),li z] (.cv (.one (.fp r))):=by
 intro N w g vs hv;obtain ⟨v,x,rfl,⟨A,c,e1,hc1,hc2,h⟩,h2⟩:=D4 hv;injection e1 with e1;subst e1 hz;have h2:[x]=[.int .i64 (i:Int)]:=h2;injection h2 with h2;subst h2;have hlt:i < rows.length:=(List.getElem?_eq_some_iff.1 hr).1;obtain ⟨b,off,hA,hrow⟩:=h (by intro h0;rw[h0] at hlt;simp at hlt)
 subst hA;refine ⟨.pointer (some ⟨b,off+i*sz,none⟩),w,?_,Below.refl _ _,⟨b,off+i*sz,rfl,(hrow i r hr).step (WStep.refl _ _) (fun _ h => .inl h)⟩⟩
 simp[OpK.run,Instr.indexAt,asIntOf,AP ht,C4 hs,Dt,hlt]
theorem Aj (t e:TypeId)(sz:Nat)(rows:List (List It0))(i:Nat)(z:Int)(r:List It0)(hr:rows[i]? = some r)(hz:z=(i:Int):=by omega)(ht:P.underlying t=some (.slice e):=by kernel_rfl)(hs:Ci P e=some sz:=by kernel_rfl):Bx P (.idxA t) [tit (slI sz rows),li z] (.cv (.one (.fp r))):=Ach t e sz rows i z r ht hs hz hr
variable {nt:Nat}
theorem Cc {t:Nat}{v:TV}{E:Env}{s:Nat}:look ((t,v)::E) s=if t=s then some v else look E s:=by
 simp only[look];by_cases h:t=s
 ·subst h;simp
 ·have:Nat.beq t s=false:=by cases hb:Nat.beq t s with
   | false=>rfl
   | true=>exact absurd (Nat.eq_of_beq_eq_true hb) h
  simp[h,this]
theorem Bf {t:Nat}{v:Option Ent}{B:Bxs}{s:Nat}:AE ((t,v)::B) s=if t=s then v else AE B s:=by
 simp only[AE];by_cases h:t=s
 ·subst h;simp
 ·have:Nat.beq t s=false:=by cases hb:Nat.beq t s with
   | false=>rfl
   | true=>exact absurd (Nat.eq_of_beq_eq_true hb) h
  simp[h,this]
theorem OA {t:Nat}{E:Env}{B:Bxs}{nx:Nat}(T:TypeId)(s:Nat):Leads I nt ⟨(t,B0 (.slice none 0 0))::E,B,nx⟩ ⟨(t,.s nx)::E,(nx,some ⟨T,some (s,0),[]⟩)::B,nx+1⟩:=by
 rintro N0 w0 a w ⟨N,g,h1,h2⟩;have hfr:g nx=none:=h2 nx (Nat.le_refl _);have hx:=CC (v := .sl none 0 0) hfr;refine ⟨N,upg g nx (.sl none 0 0),{ h1 with slots := ?_,boxes := ?_,inj := ?_,rig:=fun k v hv=>hx k v (h1.rig k v hv) },?_⟩
 ·intro q v hv
  rw[Cc] at hv;by_cases hq:t=q
  ·subst hq
   rw[if_pos rfl] at hv;injection hv with hv;subst hv;have:=h1.slots t _ (by rw[Cc,if_pos rfl])
   have this:[a.tmps.getD t undef]=[.slice none 0 0]:=this;injection this with this;exact ⟨none,0,0,Ct,by rw[this]⟩
  ·rw[if_neg hq] at hv
   exact TV.step (h1.slots q v (by rw[Cc,if_neg hq];exact hv)) (WStep.refl _ _) (fun _ h=>h) hx
 ·intro k e he
  rw[Bf] at he;by_cases hk:nx=k
  ·subst hk
   rw[if_pos rfl] at he;injection he with he;subst he;exact ⟨_,Ct,.inl ⟨s,0,rfl,rfl,rfl,rfl⟩⟩
  ·rw[if_neg hk] at he
   exact (h1.boxes k e he).keep (WStep.refl _ _) (fun _ h=>h) (fun b hb=>(h1.boxes k e he).notN hb) (fun b hb=>rfl) hx
 ·intro k j e e' b q1 q2 q3 q4
  rw[Bf] at q1 q2;by_cases hk:nx=k
  ·subst hk
   rw[Er] at q3;cases q3
  ·by_cases hj:nx=j
   ·subst hj
    rw[Er] at q4;cases q4
   ·rw[if_neg hk] at q1
    rw[if_neg hj] at q2;unfold AJ at q3 q4;rw[CL (Ne.symm hk)] at q3;rw[CL (Ne.symm hj)] at q4;exact h1.inj k j e e' b q1 q2 q3 q4
 ·intro k hk
  change nx+1≤k at hk
  show upg g nx _ k=none;rw[CL (by omega:k≠nx)]
  exact h2 k (show nx≤k by omega)
theorem AX {t k : Nat} {E : Env} {B : Bxs} {nx T sz n : Nat} {its : List It} (rows : List (List It0)) (hits : its = rows.flatten.map It.b) (hn : n = rows.length) (hw : ∀ r ∈ rows, Ce r = sz) (hk : AE B k = none) :
  Leads I nt ⟨(t,.s k)::E,(k,some ⟨T,some (sz,n),its⟩)::B,nx⟩ ⟨(t,tit (slI sz rows))::E,B,nx⟩:=by
 rintro N0 w0 a w ⟨N,g,h1,h2⟩;have hbox:=h1.boxes k ⟨T,some (sz,n),its⟩ (by rw[Bf,if_pos rfl])
 obtain ⟨A,c,xs,g1,g2,g3,g4⟩:=hbox.own rfl
 let N':Nat→Prop:=fun b=>N b∨A.map (·.block)=some b
 have hN : ∀ b,N b→N' b:=fun b hb => .inl hb
 have hkb:AJ g k=A.map (·.block):=by unfold AJ;rw[g1];cases A <;> rfl
 have hslot:=h1.slots t _ (by rw[Cc,if_pos rfl])
 obtain ⟨A',n',c',e1,e2⟩:=hslot;rw[g1] at e1;injection e1 with e1;injection e1 with e1 e3 e4;subst e1 e3 e4;injection e2 with e2;have hother : ∀ j e b,AE B j=some e→AJ g j=some b→A.map (·.block)≠some b:=by
  intro j e b hj hb hc;have hjk:j≠k:=by intro h;rw[h,hk] at hj;cases hj
  have:=h1.inj j k e ⟨T,some (sz,n),its⟩ b (by rw[Bf,if_neg (Ne.symm hjk)];exact hj) (by rw[Bf,if_pos rfl]) hb (by rw[hkb];exact hc)
  exact hjk this
 have old : ∀ j e,AE B j=some e→AE ((k,some (⟨T,some (sz,n),its⟩:Ent))::B) j=some e:=by
  intro j e hj;have hjk:j≠k:=by intro h;rw[h,hk] at hj;cases hj
  rw[Bf,if_neg (Ne.symm hjk)];exact hj
 refine ⟨N',g,⟨?_,?_,?_,?_,?_,fun b hb => .inl (h1.sup b hb),h1.below,h1.tmps,h1.defers,I.step (WStep.refl _ _) hN h1.inv,h1.rig⟩,h2⟩
 ·intro q v hv
  rw[Cc] at hv;by_cases hq:t=q
  ·subst hq
   rw[if_pos rfl] at hv;injection hv with hv;subst hv;rw[e2];subst hits hn;rcases g2 with ⟨rfl,h0,rfl,rfl⟩ | ⟨b,cs,rfl,r2,r3,r4,r5,r6,r7⟩
   ·exact ⟨none,0,rfl,by omega,by simp[maxLen],fun hr=>absurd (List.eq_nil_of_length_eq_zero h0) hr⟩
   ·refine ⟨_,c,rfl,r3,r4,fun _=>⟨b,0,rfl,fun i r hi => ?_⟩⟩
    obtain ⟨k1,k2⟩:=P8 hw (FT g3);have k3:=k2 i r hi;have hlen:=Hm k3;rw[hw r (List.mem_of_getElem? hi)] at hlen;refine ⟨cs,T,(0,0),_,.inr rfl,r2,?_,FU (WStep.refl _ _) hN k3⟩;rw[Nat.zero_add,hlen,←r6];have hi':i < rows.length:=(List.getElem?_eq_some_iff.1 hi).1;have hm:i*sz+sz≤rows.length*sz:=by
     have:(i+1)*sz≤rows.length*sz:=Nat.mul_le_mul_right _ hi';rw[Nat.add_mul,Nat.one_mul] at this;exact this
    rw[List.drop_take,List.take_take,Nat.min_eq_left (by omega)]
  ·rw[if_neg hq] at hv
   exact TV.step (h1.slots q v (by rw[Cc,if_neg hq];exact hv)) (WStep.refl _ _) hN (GExt.refl _)
 ·intro j e he
  have hj:=h1.boxes j e (old j e he);refine hj.keep (WStep.refl _ _) hN ?_ (fun b hb=>rfl) (GExt.refl _)
  rintro b hb (hn' | hn')
  ·exact hj.notN hb hn'
  ·exact hother j e b he hb hn'
 ·intro i j e e' b q1 q2
  exact h1.inj i j e e' b (old i e q1) (old j e' q2)
 ·rintro b (hb | hb)
  ·exact h1.low b hb
  ·exact hbox.lt (by rw[hkb];exact hb)
 ·rintro b (hb | hb)
  ·exact h1.sub b hb
  ·exact .inr ⟨(g4 b hb).2.2,hbox.lt (by rw[hkb];exact hb)⟩
end
abbrev dsl (s:Bool)(ds:List Nat):List It:=[.o s,.b (.it (DS ds))]
abbrev dz (s:Bool)(z:Int):List It:=dsl s (Af z.natAbs)
theorem OO {N:Nat→Prop}{w:World}{s:Bool}{ds:List Nat}{l:List Value}(h:Bi N w G0 (dsl s ds) l) : ∃ A c,l=[.bool s,.slice A ds.length c]∧Rd .u32 w w.heap.size A ds.length ds∧ds.length≤c∧c≤9223372036854775807:=by
 obtain ⟨l1,l2,e,h1,h2⟩:=h;obtain ⟨A,c,e2,h3,h4,h5⟩:=C5 h2;exact ⟨A,c,by rw[e,show l1=_ from h1,e2];rfl,h3,h4,h5⟩
theorem Uy {s:Bool}{ds:List Nat}(h:W32 ds)(hl:ds.length≤1048576):Num (dsl s ds) (sgn s (val ds)):=by
 intro N w l hl';obtain ⟨A,c,e,h1,h2,h3⟩:=OO hl';exact ⟨s,A,ds.length,c,e,⟨ds,h1,h,h2,h3,rfl⟩,hl⟩
theorem Aci {s:Bool}{z:Int}(h:decide (z < 0)=s):sgn s z.natAbs=z:=by
 unfold sgn;by_cases hz:z < 0
 ·rw[decide_eq_true hz] at h;subst h;simp;omega
 ·rw[decide_eq_false hz] at h;subst h;simp;omega
theorem Zx {s:Bool}{z:Int}(h:decide (z < 0)=s):Can (dz s z) z:=by
 intro N w l hl;obtain ⟨A,c,e,h1,h2,h3⟩:=OO hl;exact ⟨s,A,_,c,e,h1,h.symm,h2,h3⟩
theorem Yc {s:Bool}{z:Int}{k:Nat}(h:decide (z < 0)=s)(hk:Lim k z)(hk2:k≤1048576):Num (dz s z) z:=by
 intro N w l hl;obtain ⟨s',A,n,c,e,hc⟩:=Zx h N w l hl;exact ⟨s',A,n,c,e,hc.any,Nat.le_trans (hc.len hk) hk2⟩
theorem AbE {s:Bool}{z:Int}(h:decide (z < 0)=s){N:Nat→Prop}{w:World}{v:Value}(hv:(CT.ag (ic z)).sem N w G0 v):(CT.ag (dz s z)).sem N w G0 v:=by
 obtain ⟨vs,e,h1⟩:=hv;obtain ⟨s',A,n,c,rfl,h2,h3,h4,h5⟩:=C5 h1;have e1:s'=s:=by rw[h3,h]
 have e2:n=(Af z.natAbs).length:=h2.1.symm;subst e1 e2;exact ⟨_,e,[.bool s'],_,rfl,rfl,Cb ⟨A,c,rfl,h2,h4,h5⟩⟩
theorem AdD {s:Bool}{z:Int}(h:decide (z < 0)=s){N:Nat→Prop}{w:World}{v:Value}(hv:(CT.ag (dz s z)).sem N w G0 v):(CT.ag (ic z)).sem N w G0 v:=by
 obtain ⟨vs,e,h1⟩:=hv;obtain ⟨s',A,n,c,rfl,h2⟩:=Zx h N w vs h1;exact ⟨_,e,Cb ⟨s',A,n,c,rfl,h2⟩⟩
section
variable {I:WInv}{f:FuncId}{res:TV}{n d a b:Int}{x y:List It}
theorem GC (s:Bool)(hx:Num x n)(hs:decide (n < 0)=s):Sp Tryz.prog I 150 [.ag x] (.cv (.ag (dz s n))):=(E4 hx).res fun N w v h=>AbE hs h
theorem F8 (s:Bool)(m:Nat)(hm:(Af m).length≤1099511627776):Sp Tryz.prog I 153 [.one (.o s),.t (DS (Af m))] (tic (sgn s m)):=by
 intro N w vs _ _ hv;obtain ⟨v,r,rfl,h1,v2,r2,rfl,h3,h4⟩:=hv;have h1:[v]=[.bool s]:=h1;injection h1 with h1;obtain rfl:r2=[]:=h4;obtain ⟨A,c,e3,q1,q2,q3⟩:=h3;injection e3 with e3;subst h1 e3;exact (R9 s w q1 q2 q3 hm).mono fun e w' he=>EI he
theorem UJ {N:Nat→Prop}{w:World}{s:Bool}{A:Option Addr}{n c:Nat}{ds:List Nat}(h1:Rd .u32 w w.heap.size A n ds)(h2:n≤c)(h3:c≤9223372036854775807):Bi N w G0 (dsl s ds) [.bool s,.slice A n c]:=by
 obtain rfl:=h1.len;exact ⟨[.bool s],_,rfl,rfl,Cb ⟨A,c,rfl,h1,h2,h3⟩⟩
theorem Sp.n2 (h : ∀ s ds t es,W32 ds→W32 es→ds.length≤1048576→es.length≤1048576→a=sgn s (val ds)→b=sgn t (val es)→Sp Tryz.prog I f [.ag (dsl s ds),.ag (dsl t es)] res)(hx:Num x a)(hy:Num y b):Sp Tryz.prog I f [.ag x,.ag y] res:=by
 intro N w vs hI hl hv;obtain ⟨l,m,rfl,h1,h2⟩:=S4 hv;obtain ⟨s,A,k,c,rfl,⟨ds,r1,r2,r3,r4,r5⟩,hn⟩:=hx N w l h1;obtain ⟨t,A',k',c',rfl,⟨es,q1,q2,q3,q4,q5⟩,hn'⟩:=hy N w m h2;exact h s ds t es r2 q2 (by rw[r1.len];exact hn) (by rw[q1.len];exact hn') r5 q5 N w _ hI hl ⟨_,_,rfl,⟨_,rfl,UJ r1 r3 r4⟩,_,_,rfl,⟨_,rfl,UJ q1 q3 q4⟩,rfl⟩
theorem Sp.y2 (h:Sp Tryz.prog I f [.ag (ip (iy a)),.ag (ip (iy b))] res)(hx:Num x a)(hy:Num y b):Sp Tryz.prog I f [.ag x,.ag y] res :=
 h.sub fun N w vs ⟨v,l,e,h1,v2,l2,e2,h2,h3⟩=>⟨v,l,e,RJ hx h1,v2,l2,e2,RJ hy h2,h3⟩
theorem MQ {N:Nat→Prop}{w w':World}{m:Nat}{e:Ending}(h:RetMag w m e w') : ∃ v,e = .returned v∧(tit (DS (Af m))).sem (Nx N w w') w' G0 v∧Below w.heap.size w w':=by
 obtain ⟨A,n,c,rfl,h1,h2,h3,h4⟩:=h;obtain rfl:=h1.len;exact ⟨_,rfl,⟨A,c,rfl,h1,h2,h3⟩,h4⟩
abbrev cds (ds:List Nat):CT := .t (DS ds)
theorem Mp {N:Nat→Prop}{w:World}{ds es:List Nat}{vs:List Value}(hv:all2 (CT.sem N w G0) [cds ds,cds es] vs) : ∃ A c A' c',vs=[.slice A ds.length c,.slice A' es.length c']∧Rd .u32 w w.heap.size A ds.length ds∧ds.length≤c∧c≤9223372036854775807∧Rd .u32 w w.heap.size A' es.length es∧es.length≤c'∧c'≤9223372036854775807:=by
 obtain ⟨v,r,rfl,⟨A,c,e1,h1⟩,v2,r2,rfl,⟨A',c',e2,h2⟩,h4⟩:=hv;obtain rfl:r2=[]:=h4;injection e1 with e1;injection e2 with e2;subst e1 e2;exact ⟨A,c,A',c',rfl,h1.1,h1.2.1,h1.2.2,h2.1,h2.2.1,h2.2.2⟩
variable {ds es:List Nat}
theorem Acx (h1:W32 ds)(h2:W32 es)(l1:ds.length≤1048576)(l2:es.length≤1048576):Sp Tryz.prog I 216 [cds ds,cds es] (tit (DS (Af (val ds+val es)))):=by
 intro N w vs _ _ hv;obtain ⟨A,c,A',c',rfl,q1,_,_,q2,_,_⟩:=Mp hv;exact (Ol w q1 q2 h1 h2 (by omega) (by omega)).mono fun _ _=>MQ
theorem Acp (h1:W32 ds)(h2:W32 es)(l1:ds.length≤1048576)(l2:es.length≤1048576):Sp Tryz.prog I 154 [cds ds,cds es] (tit (DS (Af (val ds*val es)))):=by
 intro N w vs _ _ hv;obtain ⟨A,c,A',c',rfl,q1,_,_,q2,_,_⟩:=Mp hv;exact (NY w q1 q2 h1 h2 (by omega) (by omega)).mono fun _ _=>MQ
theorem XB (h1:W32 ds)(l1:ds.length≤1048576){v:Nat}(hle:v≤val ds):Sp Tryz.prog I 214 [cds ds,cds (Af v)] (tit (DS (Af (val ds - v)))):=by
 intro N w vs _ _ hv;obtain ⟨A,c,A',c',rfl,q1,_,_,q2,_,_⟩:=Mp hv;have:=NU (c:=c) (c':=c') w q1 q2 h1 (Am v) (by omega) (B9 (Nat.lt_of_le_of_lt hle (BR h1))) (by rw[As];exact hle)
 rw[As] at this;exact this.mono fun _ _=>MQ
theorem SQ (h1:W32 ds)(h2:W32 es):Sp Tryz.prog I 170 [cds ds,cds es] (li (BK (val ds) (val es))):=by
 intro N w vs _ _ hv;obtain ⟨A,c,A',c',rfl,q1,q2,q3,p1,p2,p3⟩:=Mp hv;exact (CQ w q1 p1 h1 h2 q2 q3 p2 p3).mono fun e w' he=>⟨_,he.1,(rfl:[_]=[_]),BN he.2⟩
theorem Uf (h1:W32 ds):Sp Tryz.prog I 136 [cds ds] (tit (DS (Af (val ds)))):=by
 intro N w vs _ _ hv;obtain ⟨v,r,rfl,⟨A,c,e1,q1,q2,q3⟩,h4⟩:=hv;obtain rfl:r=[]:=h4;injection e1 with e1;subst e1;refine (BZ w q1 h1 q2 q3).mono ?_;rintro e w' ⟨m,rfl,h,hm,rfl⟩;obtain rfl:=h.len;exact ⟨_,rfl,⟨A,c,rfl,h,by omega,q3⟩,Below.refl _ _⟩
theorem Yn {k:Nat}(h1:W32 ds)(h2:W32 es)(l1:ds.length≤k)(l2:es.length≤k){v:Nat}(hv:v≤val ds+val es∨v≤val ds*val es):(Af v).length≤k+k+1:=by
 have e1:=Nat.lt_of_lt_of_le (BR h1) (Nat.pow_le_pow_right (by omega:0 < 4294967296) l1)
 have e2:=Nat.lt_of_lt_of_le (BR h2) (Nat.pow_le_pow_right (by omega:0 < 4294967296) l2)
 have e3:=Nat.mul_lt_mul'' e1 e2;have e4:4294967296 ^ k≤4294967296 ^ (k+k):=Nat.pow_le_pow_right (by omega) (by omega)
 refine B9 ?_;rw[←Nat.pow_add] at e3;rw[Nat.pow_succ];omega
theorem Mc (h1:W32 ds)(h2:W32 es)(l1:ds.length≤1048576)(l2:es.length≤1048576){v:Nat}(hv:v≤val ds+val es∨v≤val ds*val es):(Af v).length≤1099511627776:=by
 have:=Yn h1 h2 l1 l2 hv;omega
theorem Aa3 {k:Nat}{t:Bool}(h:W32 es)(l:es.length≤k):Lim k (-sgn t (val es)):=by
 unfold Lim;rw[Int.natAbs_neg,Bw];exact Nat.lt_of_lt_of_le (BR h) (Nat.pow_le_pow_right (by omega) l)
theorem XS (hx:Num x a)(hy:Num y b):Sp Tryz.prog I 188 [.ag x,.ag y] (tic (a+b)):=by
 refine Sp.n2 (fun s ds t es w1 w2 l1 l2 ea eb => ?_) hx hy
 subst ea eb;have c0:=SQ (I:=I) w1 w2;by_cases hst:s=t
 ·subst hst
  have m:=F8 (I:=I) s (val ds+val es) (Mc w1 w2 l1 l2 (.inl (Nat.le_refl _)));have d:=Acx (I:=I) w1 w2 l1 l2;rw[show sgn s (val ds)+sgn s (val es)=sgn s (val ds+val es) by unfold sgn;cases s <;> simp <;> omega]
  cases s <;> exact sr 42 [po d,po m]
 ·by_cases h:val es≤val ds
  ·have m:=F8 (I:=I) s (val ds - val es) (Mc w1 w2 l1 l2 (.inl (by omega)))
   have d:=XB (I:=I) w1 l1 h;have g:=UV (P:=Tryz.prog) 3 (BK (val ds) (val es)) 0 true (decide_eq_true (H5 h));have r:=Uf (I:=I) w2;rw[show sgn s (val ds)+sgn t (val es)=sgn s (val ds - val es) by unfold sgn;cases s <;> cases t <;> simp at hst <;> simp <;> omega]
   cases s <;> cases t <;> first | exact absurd rfl hst | exact sr 42 [po c0,pk g,po r,po d,po m]
  ·have m:=F8 (I:=I) t (val es - val ds) (Mc w1 w2 l1 l2 (.inl (by omega)))
   have d:=XB (I:=I) w2 l2 (v:=val ds) (by omega)
   have g:=UV (P:=Tryz.prog) 3 (BK (val ds) (val es)) 0 false (decide_eq_false (by rw[H0 (by omega)];decide))
   have r:=Uf (I:=I) w1;rw[show sgn s (val ds)+sgn t (val es)=sgn t (val es - val ds) by unfold sgn;cases s <;> cases t <;> simp at hst <;> simp <;> omega]
   cases s <;> cases t <;> first | exact absurd rfl hst | exact sr 42 [po c0,pk g,po r,po d,po m]
theorem Ad0 (hx:Num x a)(hy:Num y b):Sp Tryz.prog I 112 [.ag x,.ag y] (tic (a*b)):=by
 refine Sp.n2 (fun s ds t es w1 w2 l1 l2 ea eb => ?_) hx hy
 subst ea eb;have m:=F8 (I:=I) (s != t) (val ds*val es) (Mc w1 w2 l1 l2 (.inr (Nat.le_refl _)));have d:=Acp (I:=I) w1 w2 l1 l2;rw[show sgn s (val ds)*sgn t (val es)=sgn (s != t) (val ds*val es) by unfold sgn;cases s <;> cases t <;> simp[Int.neg_mul,Int.mul_neg]]
 cases s <;> cases t <;> exact sr 16 [po d,po m]
theorem Ady (hx:Num x a)(hy:Num y b):Sp Tryz.prog I 187 [.ag x,.ag y] (tic (a - b)):=by
 refine Sp.n2 (fun s ds t es w1 w2 l1 l2 ea eb => ?_) hx hy
 have hb:Lim 1048576 (-b):=by rw[eb];exact Aa3 w2 l2
 have na:=Uy (s:=s) w1 l1;have nb:=Uy (s:=t) w2 l2;rw[←ea] at na;rw[←eb] at nb;rw[Int.sub_eq_add_neg];exact sr 9 [po (JK nb),po (XS na (Bj hb (Nat.le_refl _)))]
theorem Ad3 (k:Int)(hx:Num x a)(hy:Num y b)(hk:CO a b=k):Sp Tryz.prog I 135 [.ag x,.ag y] (B0 (.int .i64 k)):=by
 refine Sp.y2 ?_ hx hy;obtain ⟨s,hs⟩ : ∃ s,decide (a < 0)=s:=⟨_,rfl⟩;obtain ⟨t,ht⟩ : ∃ t,decide (b < 0)=t:=⟨_,rfl⟩;have ca:=GC (I:=I) s (B7 a) hs;have cb:=GC (I:=I) t (B7 b) ht;have k1:=SQ (I:=I) (Am a.natAbs) (Am b.natAbs);have k2:=SQ (I:=I) (Am b.natAbs) (Am a.natAbs);rw[As,As] at k1 k2;unfold dz at ca cb;have hz:CO a b=if s then (if t then BK b.natAbs a.natAbs else -1) else if t then 1 else BK a.natAbs b.natAbs:=by
  subst hs ht;by_cases h1:a < 0 <;> by_cases h2:b < 0 <;> simp only[h1,h2,decide_true,decide_false,if_true,if_false,Bool.false_eq_true]
  ·rw[NG (by omega),if_pos h1]
  ·unfold CO;rw[if_pos (by omega)]
  ·unfold CO;rw[if_neg (by omega),if_neg (by omega)]
  ·rw[NG (by omega),if_neg h1]
 subst hk;rw[hz];cases s <;> cases t
 ·exact sr 28 [po ca,po cb,po k1]
 ·exact sr 28 [po ca,po cb]
 ·exact sr 28 [po ca,po cb]
 ·exact sr 28 [po ca,po cb,po k2]
end
section
variable {I:WInv}{f:FuncId}{res:TV}{n d n' d':Int}
variable {x y:List It}{k k':Nat}
theorem Acw (a b:Nat)(hb:b≠0)(ha:(Af a).length≤1073741824)(hb2:(Af b).length≤1073741824):Sp Tryz.prog I 186 [.t (DS (Af a)),.t (DS (Af b))] (.tu [.t (DS (Af (a / b))),.t (DS (Af (a % b)))]):=by
 intro N w vs _ _ hv;obtain ⟨v,r,rfl,h1,v2,r2,rfl,h3,h4⟩:=hv;obtain rfl:r2=[]:=h4;obtain ⟨A,c,e1,q1,q2,q3⟩:=h1;obtain ⟨A',c',e3,q4,q5,q6⟩:=h3;injection e1 with e1;injection e3 with e3;subst e1 e3;refine (Jk w q1 q4 q2 q3 q5 q6 ha hb2 hb).mono ?_;rintro e w' ⟨B,n,d,B',n',d',rfl,r1,r2,r3,r4,r5,r6,r7⟩;have l1:=r1.len;have l2:=r2.len;subst l1 l2;exact ⟨_,rfl,⟨_,rfl,_,_,rfl,⟨B,d,rfl,r1,r3,r4⟩,_,_,rfl,⟨B',d',rfl,r2,r5,r6⟩,rfl⟩,r7⟩
theorem VJ {a b:Int}(hb:b≠0){s t:Bool}(hs:decide (a < 0)=s)(ht:decide (b < 0)=t) :
  ((0 < a.natAbs % b.natAbs∧s≠t)→sgn (s != t) (a.natAbs / b.natAbs) - 1=a.fdiv b∧sgn s (a.natAbs % b.natAbs)+b=a.fmod b)∧(¬ (0 < a.natAbs % b.natAbs∧s≠t)→sgn (s != t) (a.natAbs / b.natAbs)=a.fdiv b∧sgn s (a.natAbs % b.natAbs)=a.fmod b):=by
 have ea:sgn s a.natAbs=a:=by subst hs;unfold sgn;by_cases h:a < 0 <;> simp[h] <;> omega
 have eb:sgn t b.natAbs=b:=by subst ht;unfold sgn;by_cases h:b < 0 <;> simp[h] <;> omega
 refine ⟨fun h => ?_,fun h => ?_⟩
 ·have:=QH (a:=a.natAbs) (b:=b.natAbs) (by omega) h.1 h.2
  rwa [ea,eb] at this
 ·have:=Ps (a:=a.natAbs) (b:=b.natAbs) (by omega) h
  rwa [ea,eb] at this
theorem JQ {q1 q2:IntP}{a b:Int}(hx:Num (ip q1) a)(hy:Num (ip q2) b)(la:Lim 1048576 a)(lb:Lim 1048576 b)(hb:b≠0):Sp Tryz.prog I 149 [.ag (ip q1),.ag (ip q2)] (tdm (a.fdiv b) (a.fmod b) 0):=by
 obtain ⟨s,hs⟩ : ∃ s,decide (a < 0)=s:=⟨_,rfl⟩;obtain ⟨t,ht⟩ : ∃ t,decide (b < 0)=t:=⟨_,rfl⟩;obtain ⟨f1,f2⟩:=VJ hb hs ht;have ca:=GC (I:=I) s hx hs;have cb:=GC (I:=I) t hy ht;have nb:=Yc (s:=t) ht lb (Nat.le_refl _);have hla:(Af a.natAbs).length≤1048576:=B9 la;have hlb:(Af b.natAbs).length≤1048576:=B9 lb;have dd:=Acw (I:=I) a.natAbs b.natAbs (by omega) (by omega) (by omega)
 have hb1:1≤(Af b.natAbs).length:=by
  have:=AN b.natAbs;omega
 have lq:Lim 1048576 (sgn (s != t) (a.natAbs / b.natAbs)):=by unfold Lim;rw[Bw];exact Nat.lt_of_le_of_lt (Nat.div_le_self _ _) la
 have lr:Lim 1048576 (sgn s (a.natAbs % b.natAbs)):=by unfold Lim;rw[Bw];exact Nat.lt_of_le_of_lt (Nat.mod_le _ _) la
 have mq:=F8 (I:=I) (s != t) (a.natAbs / b.natAbs) (by have:=B9 lq;rw[Bw] at this;omega)
 obtain ⟨u,hu⟩ : ∃ u,decide (sgn s (a.natAbs % b.natAbs) < 0)=u:=⟨_,rfl⟩;have mr:Sp Tryz.prog I 153 [.one (.o s),.t (DS (Af (a.natAbs % b.natAbs)))] (.cv (.ag (dz u (sgn s (a.natAbs % b.natAbs))))):=(F8 (I:=I) s (a.natAbs % b.natAbs) (by have:=B9 lr;rw[Bw] at this;omega)).res fun N w v h=>AbE hu h
 have e0:(sgn s (a.natAbs % b.natAbs)).natAbs=a.natAbs % b.natAbs:=Bw _ _;have hr0:=AN (a.natAbs % b.natAbs);have fin : ∀ {q r:Int},q=a.fdiv b→r=a.fmod b→decide (r < 0)=u→Sp Tryz.prog I 149 [.ag (ip q1),.ag (ip q2)] (.tu [.ag (ic q),.ag (dz u r),ci 0])→Sp Tryz.prog I 149 [.ag (ip q1),.ag (ip q2)] (tdm (a.fdiv b) (a.fmod b) 0):=by
  rintro q r rfl rfl hd h;refine h.res ?_;rintro N w v ⟨vs,e,v1,l1,e1,h1,v2,l2,e2,h2,h3⟩;exact ⟨vs,e,v1,l1,e1,h1,v2,l2,e2,AdD hd h2,h3⟩
 unfold dz at mr nb;rw[e0] at mr;have num_q:=Bj lq (Nat.le_refl _);have num_r:Num (dsl u (Af (a.natAbs % b.natAbs))) (sgn s (a.natAbs % b.natAbs)):=by
  have:=Yc (s:=u) hu lr (Nat.le_refl _);unfold dz at this
  rwa [e0] at this
 unfold dz at ca cb fin;have n1:=Bj (Fi (k:=1048576) (by omega)) (Nat.le_refl _)
 have lb1:=GT (P:=Tryz.prog) 22 97 3 (Af b.natAbs) Tryz.underlying22;have lr1:=GT (P:=Tryz.prog) 22 97 3 (Af (a.natAbs % b.natAbs)) Tryz.underlying22;by_cases h0:a.natAbs % b.natAbs=0
 ·obtain ⟨g1,g2⟩:=f2 (by omega)
  refine fin g1 g2 hu ?_;rw[e0];cases s <;> cases t <;> exact sr 59 [po ca,po cb,pk lb1,pk (AO 3 (((Af b.natAbs).length:Nat):Int) 0 false (decide_eq_false (by omega))),po dd,po mq,po mr,pk lr1,pk (Dj 3 (((Af (a.natAbs % b.natAbs)).length:Nat):Int) 0 false (decide_eq_false (by omega)))]
 ·by_cases hst:s=t
  ·obtain ⟨g1,g2⟩:=f2 (fun h=>h.2 hst)
   refine fin g1 g2 hu ?_;rw[e0];subst hst;cases s <;> exact sr 59 [po ca,po cb,pk lb1,pk (AO 3 (((Af b.natAbs).length:Nat):Int) 0 false (decide_eq_false (by omega))),po dd,po mq,po mr,pk lr1,pk (Dj 3 (((Af (a.natAbs % b.natAbs)).length:Nat):Int) 0 true (decide_eq_true (by omega)))]
  ·obtain ⟨g1,g2⟩:=f1 ⟨by omega,hst⟩
   rw[←g1,←g2];cases s <;> cases t <;> first | exact absurd rfl hst | exact sr 59 [po ca,po cb,pk lb1,pk (AO 3 (((Af b.natAbs).length:Nat):Int) 0 false (decide_eq_false (by omega))),po dd,po mq,po mr,pk lr1,pk (Dj 3 (((Af (a.natAbs % b.natAbs)).length:Nat):Int) 0 true (decide_eq_true (by omega))),po (FX 1 (by omega) (by omega)),po (Ady num_q n1),po (XS num_r nb)]
theorem Om {N:Nat→Prop}{w:World}{v:Value}(h:(CT.ag (NZ++ic 1)).sem N w G0 v):(frc 0).sem N w G0 v:=by
 obtain ⟨vs,e,h1⟩:=h;obtain ⟨l1,l2,e1,h2,h3⟩:=Jt h1;obtain ⟨s,A,m,c,e2,h4⟩:=UT N w l1 h2;exact ⟨vs,e,by rw[e1];exact C8 (Cb ⟨s,A,m,c,e2,h4⟩) h3⟩
end
section
variable {I:WInv}{n d n' d':Int}{k k':Nat}{x y:List It}{q1 q2 q3 q4:IntP}
abbrev frz:CT := .ag (NZ++NZ)
theorem Ac5 (h1:Num (ip q1) n)(h2:Num (ip q2) d)(hk1:Lim 1048576 n)(hk2:Lim 1048576 d)(hd:d≠0):Sp Tryz.prog I 98 [.ag (ip q1),.ag (ip q2)] (.tu [frc (Rat.divInt n d),ci 0]):=by
 rcases Int.lt_or_gt_of_ne hd with h | h
 ·exact sr 13 [po (BL (-1) h2 (Int.sign_eq_neg_one_of_neg h)),po (Db h1 h2 hk1 hk2 hd)]
 ·exact sr 13 [po (BL 1 h2 (Int.sign_eq_one_of_pos h)),po (Db h1 h2 hk1 hk2 hd)]
theorem RF {z:Int}(h:R64 z):Lim 2 z:=by
 unfold Lim;have:z.natAbs≤9223372036854775808:=by omega
 exact Nat.lt_of_le_of_lt this (by decide)
theorem RP {a b:Int}(ha:R64 a)(hb:R64 b)(h0:b≠0):Sp Tryz.prog I 48 [ci a,ci b] (.tu [frc (Rat.divInt a b),ci 0]) :=
 sr 13 [po (GR a ha.1 ha.2),po (GR b hb.1 hb.2),po (Ac5 (Bj (RF ha) (by omega)) (Bj (RF hb) (by omega)) ((RF ha).mono (by omega)) ((RF hb).mono (by omega)) h0)]
theorem Tr (h1:Num (ip q1) n):Sp Tryz.prog I 104 [.ag (ip q1)] (tfr (n:Rat)):=by
 have h:Sp Tryz.prog I 104 [.ag (ip q1)] (.cv (fr (cP (n+0)) (cP 1))) :=
  sr 8 [po (J7 h1 PN),po (GR 1 (by omega) (by omega))]
 rw[Int.add_zero] at h;exact h
theorem Aaj (n:Int):Rat.divInt n 1=(n:Rat):=by rw[Rat.divInt_eq_div,Rat.intCast_one,Rat.div_def];grind
abbrev Dg:=Bool×List Nat
end
theorem Tab.keep {w w':World}(h:Tab w)(hb:w'.heap[1]? = w.heap[1]?):Tab w':=by
 unfold Tab Lib.TabIs World.var? at *;have hg : Tryz.prog.globalNamed "internal/strconv.uint64pow10" = some 1 := by kernel_rfl
 simp only[hg,Option.bind_some] at h ⊢;rw[hb];exact h
theorem Tab.lt {w:World}(h:Tab w):1 < w.heap.size:=by
 unfold Tab Lib.TabIs World.var? at h;have hg : Tryz.prog.globalNamed "internal/strconv.uint64pow10" = some 1 := by kernel_rfl
 simp only[hg,Option.bind_some] at h;rcases Nat.lt_or_ge 1 w.heap.size with h' | h'
 ·exact h'
 ·rw[Array.getElem?_eq_none h'] at h;simp at h
def DG:WInv:=⟨fun N w=>Tab w∧N 1,fun {N N' w w'} hw hN ⟨h1,h2⟩=>⟨h1.keep (by
 rcases hw.keep _ h1.lt with e | e
 ·exact e
 ·exact absurd h2 e.1),hN _ h2⟩⟩
def AcI (z:Int):ByteArray:=AR (D5 (decide (z < 0)) z.natAbs)
theorem UD {s:Bool}{z:Int}(h:z=sgn s z.natAbs):AR (D5 s z.natAbs)=AcI z:=by
 unfold AcI;by_cases h0:z=0
 ·subst h0;rw[show Int.natAbs 0=0 from rfl,FG,FG]
 ·congr 2
  cases s with
  | true=>rw[Ab0] at h;rw[decide_eq_true];omega
  | false=>rw[X6] at h;rw[decide_eq_false];omega
section
variable {x:List It}{z:Int}{P:Program}
theorem AcH (hx:Num x z):Sp Tryz.prog DG 91 [.ag x] (B0 (.string (AcI z))):=by
 intro N w vs hI _ hv;obtain ⟨l,rfl,h1⟩:=NN hv;obtain ⟨s,A,n,c,rfl,h2,h3⟩:=hx N w l h1;rw[←UD h2.sign_eq];exact (Tt w h2 (by omega) hI.1).mono fun e w' he=>GB he
theorem Adw (t:TypeId)(a b:ByteArray)(h:a.size+b.size≤9223372036854775807):Bx P (.bin .add t) [B0 (.string a),B0 (.string b)] (B0 (.string (a++b))):=BE (vs:=[.string a,.string b]) fun w=>by
 have h' : ¬ (9223372036854775807 < ((a.size+b.size:Nat):Int)):=by omega
 simp only[OpK.run,binOp,Op.stringOp];have hg:(eqGuard .add t (.tmp 0) (.tmp 1) (.string a) (.string b)).run P w = .ok () w:=by simp[eqGuard]
 rw[Sem.run_bind,hg];simp only[Result.andThen_ok];rw[if_neg (by show ¬ (((a.size+b.size:Nat):Int) > 9223372036854775807);omega)]
 rfl
theorem Adv (t:TypeId)(a b:ByteArray)(c:Bool)(h:(a.toList == b.toList)=c):Bx P (.bin .eql t) [B0 (.string a),B0 (.string b)] (lb c):=BE (vs:=[.string a,.string b]) fun w=>by
 subst h;simp[OpK.run,eqGuard,binOp,Op.stringOp]
theorem Adu (t:TypeId)(a b:ByteArray)(c:Bool)(h:(a.toList == b.toList) = !c):Bx P (.bin .neq t) [B0 (.string a),B0 (.string b)] (lb c):=BE (vs:=[.string a,.string b]) fun w=>by
 simp[OpK.run,eqGuard,binOp,Op.stringOp,h]
theorem Aa5 {I:WInv}{f:FuncId}{args:List CT}(h:Sp Tryz.prog I f args (lb true)){w:World}{vs:List Value}(hI:I.T (fun b=>b < w.heap.size) w)(hv:all2 (CT.sem (fun b=>b < w.heap.size) w G0) args vs):Calls Tryz.prog f vs.toArray w (Gw w (.bool true)) :=
 (h (fun b=>b < w.heap.size) w vs hI (fun _ h=>h) hv).mono fun e w' ⟨v,h1,h2,h3⟩=>by
  have h2:[v]=[.bool true]:=h2;injection h2 with h2;exact ⟨by rw[h1,h2],h3⟩
end
section
variable {I:WInv}{n d n' d':Int}{k k':Nat}{x y:List It}{q1 q2 q3 q4:IntP}{P:Program}
theorem Ab9 (h1:Fk q1 q2 n d k):Lim k (Rat.divInt n d).num∧Lim k ((Rat.divInt n d).den:Int):=⟨Fj h1.ln,Ge h1.ld h1.k0⟩
def flq (q:Rat):Int:=q.num.fdiv q.den
theorem Ws {n d:Int}(hd:0 < d):n.fdiv d=flq (Rat.divInt n d):=by
 unfold flq;rw[Dz hd,D0 hd];have hg:0 < ((Nat.gcd n.natAbs d.natAbs:Nat):Int):=by have:=Le (n:=n) (d:=d) (by omega);omega
 have d1:((Nat.gcd n.natAbs d.natAbs:Nat):Int) ∣ n:=Int.gcd_dvd_left (a:=n) (b:=d);have d2:((Nat.gcd n.natAbs d.natAbs:Nat):Int) ∣ d:=Int.gcd_dvd_right (a:=n) (b:=d);generalize ((Nat.gcd n.natAbs d.natAbs:Nat):Int)=g at *;obtain ⟨a,rfl⟩:=d1;obtain ⟨b,rfl⟩:=d2;have hb:0 < b:=by
  rcases Int.lt_or_le 0 b with h | h
  ·exact h
  ·have:=Int.mul_nonpos_of_nonneg_of_nonpos (Int.le_of_lt hg) h;omega
 rw[Int.fdiv_eq_ediv_of_nonneg _ (Int.le_of_lt hg),Int.fdiv_eq_ediv_of_nonneg _ (Int.le_of_lt hg),Int.mul_ediv_cancel_left _ (by omega),Int.mul_ediv_cancel_left _ (by omega),Int.fdiv_eq_ediv_of_nonneg _ (by omega),Int.fdiv_eq_ediv_of_nonneg _ (by omega),Int.mul_ediv_mul_of_pos _ _ hg]
theorem AaE {q:Rat}{k:Nat}(h:Lim k q.num):Lim k (flq q):=RE h (Kt q)
def clq (q:Rat):Int := -flq (-q)
theorem AaZ {q:Rat}{k:Nat}(h:Lim k q.num):Lim k (clq q):=by
 unfold clq;exact (AaE (q := -q) (by rw[Rat.neg_num];exact h.neg)).neg
theorem Zt (h1:Fk q1 q2 n d k):Sp Tryz.prog I 159 [fr q1 q2] (tic (clq (Rat.divInt n d))):=by
 have e:=Ws (n := -(pn n d)) (GE d);have e1:Rat.divInt (-(pn n d)) (pd d) = -Rat.divInt n d:=by rw[←Rat.neg_divInt,L2]
 rw[e1] at e;have l:=(KQ h1.ln d).neg;have hk:=h1.k1;have lq:Lim k ((-(pn n d)).fdiv (pd d)):=RE l (GE d);unfold clq;rw[←e];exact sr 23 [po (FB h1.a h1.b h1.big.1 h1.big.2),po (Gd (B7 (pn n d))),po (Kq (ny l (by omega)) (B7 (pd d)) (Rq d)),po (Gd (ny lq (by omega)))]
end
def It.av (k:Nat):It→Bool
 | .ptr j _ => !Nat.beq j k
 | .sl j => !Nat.beq j k
 | .clo _ l=>l.all fun p => !Nat.beq p.1 k
 | _=>true
def CT.av (k:Nat):CT→Bool
 | .one x=>x.av k
 | .ag l=>l.all (It.av k)
def TV.av (k:Nat):TV→Bool
 | .cv c=>c.av k
 | .tu l=>l.all (CT.av k)
def avE (k:Nat):Env→Bool
 | []=>true
 | (_,v)::r=>v.av k&&avE k r
def avB (k:Nat):Bxs→Bool
 | []=>true
 | (j,some e)::r => !Nat.beq j k&&e.its.all (It.av k)&&avB k r
 | (_,none)::r=>avB k r
section
variable {I:WInv}{nt:Nat}
def H7 (g:Gh)(k k':Nat):Gh:=fun x=>if x=k then g k' else g x
theorem JP {g:Gh}{k k' j:Nat}(h:Nat.beq j k=false):H7 g k k' j=g j:=by
 unfold H7;rw[if_neg];intro e;rw[e,Nat.beq_refl] at h;cases h
theorem KM {g:Gh}{k k':Nat}:H7 g k k' k=g k':=by unfold H7;rw[if_pos rfl]
theorem Uz {b:Bool}(h:(!b)=true):b=false:=by simpa using h
theorem It.av_sem {N:Nat→Prop}{w:World}{g:Gh}{k k':Nat}{x:It}{l:List Value}(h:x.av k=true)(hs:x.sem N w g l):x.sem N w (H7 g k k') l:=by
 cases x with
 | b x=>exact hs
 | fp x=>exact hs
 | ptr j off=>obtain ⟨b,h1,h2⟩:=hs;exact ⟨b,by unfold AJ;rw[JP (Uz h)];exact h1,h2⟩
 | sl j=>obtain ⟨A,n,c,h1,h2⟩:=hs;exact ⟨A,n,c,by rw[JP (Uz h)];exact h1,h2⟩
 | clo f p=>obtain ⟨cs,h1,h2⟩:=hs;exact ⟨cs,Ex (fun q hq b hb=>by unfold AJ at hb ⊢;rw[JP (Uz (List.all_eq_true.1 h q hq))];exact hb) h1,h2⟩
theorem Hl {N:Nat→Prop}{w:World}{g:Gh}{k k':Nat} : ∀ {xs:List It} {l:List Value},xs.all (It.av k)=true→Bi N w g xs l→Bi N w (H7 g k k') xs l
 | [],_,_,h=>h
 | x::xs,_,hn,⟨l1,l2,e,h1,h2⟩=>by
  simp only[List.all_cons,Bool.and_eq_true] at hn;exact ⟨l1,l2,e,It.av_sem hn.1 h1,Hl hn.2 h2⟩
theorem CT.av_sem {N:Nat→Prop}{w:World}{g:Gh}{k k':Nat}{c:CT}{v:Value}(h:c.av k=true)(hs:c.sem N w g v):c.sem N w (H7 g k k') v:=by
 cases c with
 | one x=>exact It.av_sem h hs
 | ag l=>obtain ⟨vs,e,h1⟩:=hs;exact ⟨vs,e,Hl h h1⟩
theorem Vc {N:Nat→Prop}{w:World}{g:Gh}{k k':Nat} : ∀ {cs:List CT} {vs:List Value},cs.all (CT.av k)=true→all2 (CT.sem N w g) cs vs→all2 (CT.sem N w (H7 g k k')) cs vs
 | [],_,_,h=>h
 | c::cs,_,hn,⟨v,l,e,h1,h2⟩=>by
  simp only[List.all_cons,Bool.and_eq_true] at hn;exact ⟨v,l,e,CT.av_sem hn.1 h1,Vc hn.2 h2⟩
theorem TV.av_sem {N:Nat→Prop}{w:World}{g:Gh}{k k':Nat}{t:TV}{v:Value}(h:t.av k=true)(hs:t.sem N w g v):t.sem N w (H7 g k k') v:=by
 cases t with
 | cv c=>exact CT.av_sem h hs
 | tu l=>obtain ⟨vs,e,h1⟩:=hs;exact ⟨vs,e,Vc h h1⟩
theorem S3 {k:Nat} : ∀ {E:Env} {t:Nat} {v:TV},avE k E=true→look E t=some v→v.av k=true
 | [],_,_,_,h=>by cases h
 | (q,u)::r,t,v,h,hv=>by
  simp only[avE,Bool.and_eq_true] at h;simp only[look] at hv;split at hv
  ·injection hv with hv;rw[←hv];exact h.1
  ·exact S3 h.2 hv
theorem K7 {k:Nat} : ∀ {B:Bxs} {t:Nat} {e:Ent},avB k B=true→AE B t=some e→Nat.beq t k=false∧e.its.all (It.av k)=true
 | [],_,_,_,h=>by cases h
 | (j,some u)::r,t,e,h,hv=>by
  simp only[avB,Bool.and_eq_true] at h;simp only[AE] at hv;split at hv
  ·rename_i hk
   injection hv with hv;rw[←hv,←Nat.eq_of_beq_eq_true hk];exact ⟨Uz h.1.1,h.1.2⟩
  ·exact K7 h.2 hv
 | (j,none)::r,t,e,h,hv=>by
  simp only[avB] at h;simp only[AE] at hv;split at hv
  ·cases hv
  ·exact K7 h hv
theorem BoxSem.ren {N:Nat→Prop}{w:World}{g:Gh}{base:Nat→Prop}{k k' j:Nat}{e:Ent}(h:BoxSem N w g base j e)(hg:H7 g k k' j=g j)(he:e.its.all (It.av k)=true):BoxSem N w (H7 g k k') base j e:=by
 obtain ⟨gv,h1,h2⟩:=h;refine ⟨gv,by rw[hg];exact h1,?_⟩
 rcases h2 with ⟨s,n,r1,r2,r3,r4⟩ | ⟨b,cs,l,r1,r2,r3,r4⟩
 ·exact .inl ⟨s,n,r1,r2,r3,Hl he r4⟩
 ·exact .inr ⟨b,cs,l,r1,r2,Hl he r3,r4⟩
theorem KL {t k k':Nat}{E:Env}{B:Bxs}{e:Ent}{nx:Nat}(hE:avE k E=true)(hB:avB k B=true)(he:e.its.all (It.av k)=true)(hk:k < nx)(hk':AE B k'=none)(h2k:k=2∨4≤k:=by omega) :
  Leads I nt ⟨(t,.cv (.one (.sl k')))::E,(k',some e)::B,nx⟩ ⟨(t,.s k)::E,(k,some e)::B,nx⟩:=by
 rintro N0 w0 a w ⟨N,g,h1,h2⟩;have old : ∀ j e',AE B j=some e'→AE ((k',some e)::B) j=some e':=by
  intro j e' hj;have:k'≠j:=by intro h;rw[h,hj] at hk';cases hk'
  rw[Bf,if_neg this];exact hj
 refine ⟨N,H7 g k k',{ h1 with slots := ?_,boxes := ?_,inj := ?_,rig:=fun x v hv=>by have:=w0.lo x v hv;unfold H7;rw[if_neg (by omega)];exact h1.rig x v hv },?_⟩
 ·intro q v hv
  rw[Cc] at hv;by_cases hq:t=q
  ·subst hq
   rw[if_pos rfl] at hv;injection hv with hv;subst hv;obtain ⟨A,n,c,e1,e2⟩:=h1.slots t _ (by rw[Cc,if_pos rfl])
   exact ⟨A,n,c,by rw[KM];exact e1,e2⟩
  ·rw[if_neg hq] at hv
   exact TV.av_sem (S3 hE hv) (h1.slots q v (by rw[Cc,if_neg hq];exact hv))
 ·intro j e' hj
  rw[Bf] at hj;by_cases hjk:k=j
  ·subst hjk
   rw[if_pos rfl] at hj;injection hj with hj;subst hj;obtain ⟨gv,r1,r2⟩:=h1.boxes k' e (by rw[Bf,if_pos rfl])
   refine ⟨gv,by rw[KM];exact r1,?_⟩
   rcases r2 with ⟨s,n,q1,q2,q3,q4⟩ | ⟨b,cs,l,q1,q2,q3,q4⟩
   ·exact .inl ⟨s,n,q1,q2,q3,Hl he q4⟩
   ·exact .inr ⟨b,cs,l,q1,q2,Hl he q3,q4⟩
  ·rw[if_neg hjk] at hj
   obtain ⟨f1,f2⟩:=K7 hB hj;exact (h1.boxes j e' (old j e' hj)).ren (JP f1) f2
 ·have key : ∀ j e' b,AE ((k,some e)::B) j=some e'→AJ (H7 g k k') j=some b → ∃ i e'',AE ((k',some e)::B) i=some e''∧AJ g i=some b∧(j=k∧i=k'∨j≠k∧i=j∧AE B j=some e'):=by
   intro j e' b q1 q2;rw[Bf] at q1;by_cases hjk:k=j
   ·subst hjk
    refine ⟨k',e,by rw[Bf,if_pos rfl],?_,.inl ⟨rfl,rfl⟩⟩
    unfold AJ at q2 ⊢;rw[KM] at q2;exact q2
   ·rw[if_neg hjk] at q1
    refine ⟨j,e',old j e' q1,?_,.inr ⟨Ne.symm hjk,rfl,q1⟩⟩;unfold AJ at q2 ⊢;rw[JP (K7 hB q1).1] at q2;exact q2
  intro i j e1 e2 b q1 q2 q3 q4;obtain ⟨i',f1,r1,r2,r3⟩:=key i e1 b q1 q3;obtain ⟨j',f2,s1,s2,s3⟩:=key j e2 b q2 q4;have:=h1.inj i' j' f1 f2 b r1 s1 r2 s2;rcases r3 with ⟨a1,a2⟩ | ⟨a1,a2,a3⟩ <;> rcases s3 with ⟨b1,b2⟩ | ⟨b1,b2,b3⟩
  ·rw[a1,b1]
  ·exfalso;rw[a2,b2] at this;rw[←this,hk'] at b3;cases b3
  ·exfalso;rw[a2,b2] at this;rw[this,hk'] at a3;cases a3
  ·rw[←a2,←b2];exact this
 ·intro x hx
  show H7 g k k' x=none;have hx:nx≤x:=hx;unfold H7;rw[if_neg (by omega)]
  exact h2 x hx
theorem Lj {E:Env}{B:Bxs}{nx nx':Nat}(hE:ltE nx' E=true)(hB:ltB nx' B=true)(h2n:4≤nx':=by omega):Leads I nt ⟨E,B,nx⟩ ⟨E,B,nx'⟩:=by
 rintro N0 w0 a w ⟨N,g,h1,h2⟩;refine ⟨N,Gv g nx',{ h1 with slots:=fun t v hv=>TV.lt_sem (JZ hE hv) (h1.slots t v hv),boxes:=fun k e he=>(h1.boxes k e he).cut (Dq hB he).1 (Dq hB he).2,inj := ?_,rig:=fun x v hv=>by rw[Hy (by have:=w0.lo x v hv;omega)];exact h1.rig x v hv },fun k hk=>by show Gv g nx' k=none;unfold Gv;rw[if_neg (Nat.not_lt.2 hk)]⟩
 intro k j e e' bb q1 q2 q3 q4;rw[El (Dq hB q1).1] at q3;rw[El (Dq hB q2).1] at q4;exact h1.inj k j e e' bb q1 q2 q3 q4
end
theorem map_some {α β:Type}{f:α→β}{xs:List α}{i:Nat}{x:α}(h:xs[i]? = some x):(xs.map f)[i]? = some (f x):=by rw[List.getElem?_map,h];rfl
section
variable {P:Program}{I:WInv}{nt:Nat}
theorem OE {c:Code}{ex:Exit}{b:St}(hex:ex ≠ .normal)(s:Nat→St)(i0 m:Nat)(h0:i0≤m)(step : ∀ i,i0≤i→i < m→Rnd P I nt c (s i) .normal (s (i+1)))(fin:Rnd P I nt c (s m) ex b):LoopTr P I nt c (s i0) ex b:=by
 refine Ka (ι:=Nat) hex s (fun i=>m - i) (fun i=>i0≤i∧i≤m) i0 ⟨Nat.le_refl _,h0⟩ ?_
 intro i hi;by_cases h:i < m
 ·exact .inl ⟨i+1,⟨by have:=hi.1;omega,h⟩,by show m - (i+1) < m - i;omega,step i hi.1 h⟩
 ·have:i=m:=by have:=hi.2;omega
  subst this;exact .inr fin
theorem Bq {c:Code}{ex:Exit}{b:St}(hex:ex ≠ .normal)(s:Nat→St)(m:Nat)(step : ∀ i,i < m→Rnd P I nt c (s i) .normal (s (i+1)))(fin:Rnd P I nt c (s m) ex b):LoopTr P I nt c (s 0) ex b :=
 OE hex s 0 m (Nat.zero_le _) (fun i _ h=>step i h) fin
theorem ZU (t e ty:TypeId)(sz:Nat)(rows:List (List It0))(n:Int)(ht:P.underlying t=some (.slice e))(hn:(rows.length:Int)=n):Bx P (.len #[t] ty) [tit (slI sz rows)] (li n):=by
 subst hn;exact Acg t e ty sz rows ht
theorem Al (t e ty:TypeId)(sz:Nat)(rows:List (List It0))(n:Int)(ht:P.underlying t=some (.slice e):=by kernel_rfl)(hn:(rows.length:Int)=n:=by rw[List.length_map] <;> omega):Bx P (.len #[t] ty) [tit (slI sz rows)] (li n):=ZU t e ty sz rows n ht hn
def TVle (v v':TV):Prop := ∀ N w g x,v.sem N w g x→v'.sem N w g x
def CTle (v v':CT):Prop := ∀ N w g x,v.sem N w g x→v'.sem N w g x
def ILe (l l':List It):Prop := ∀ N w g x,Bi N w g l x→Bi N w g l' x
def XLe (x y:It):Prop := ∀ N w g l,x.sem N w g l→y.sem N w g l
def ItLe (i j:Item):Prop := ∀ N w l,i.T N w l→j.T N w l
theorem TVle.refl {v:TV}:TVle v v:=fun _ _ _ _ h=>h
theorem CTle.refl {v:CT}:CTle v v:=fun _ _ _ _ h=>h
theorem ILe.refl {v:List It}:ILe v v:=fun _ _ _ _ h=>h
theorem CTle.tv {c c':CT}(h:CTle c c'):TVle (.cv c) (.cv c'):=h
theorem ILe.ag {l l':List It}(h:ILe l l'):CTle (.ag l) (.ag l'):=fun N w g _ ⟨vs,e,hv⟩=>⟨vs,e,h N w g vs hv⟩
theorem XLe.one {x y:It}(h:XLe x y):CTle (.one x) (.one y):=fun N w g v hv=>h N w g [v] hv
theorem ItLe.x {i j:Item}(h:ItLe i j):XLe (.b (.it i)) (.b (.it j)):=fun N w _ l hl=>h N w l hl
theorem XLe.refl {x:It}:XLe x x:=fun _ _ _ _ h=>h
theorem ILe.cons {x y:It}{l l':List It}(h:XLe x y)(hl:ILe l l'):ILe (x::l) (y::l'):=fun N w g _ ⟨a,b,e,h1,h2⟩=>⟨a,b,e,h N w g a h1,hl N w g b h2⟩
theorem Aea : ∀ {l l':List CT},(∀ N w g vs,all2 (CT.sem N w g) l vs→all2 (CT.sem N w g) l' vs)→TVle (.tu l) (.tu l'):=fun h N w g _ ⟨vs,e,hv⟩=>⟨vs,e,h N w g vs hv⟩
def WkA:List CT→List CT→Prop
 | [],[]=>True
 | c::l,c'::l'=>CTle c c'∧WkA l l'
 | _,_=>False
theorem WkA.all2 {N:Nat→Prop}{w:World}{g:Gh} : ∀ {l l':List CT} {vs:List Value},WkA l l'→all2 (CT.sem N w g) l vs→all2 (CT.sem N w g) l' vs
 | [],[],_,_,h=>h
 | c::l,c'::l',_,hw,⟨v,r,e,h1,h2⟩=>⟨v,r,e,hw.1 N w g v h1,WkA.all2 hw.2 h2⟩
 | [],_::_,_,hw,_=>hw.elim
 | _::_,[],_,hw,_=>hw.elim
theorem Sp.wk {f:FuncId}{args args':List CT}{res:TV}(h:Sp P I f args res)(hw:WkA args' args):Sp P I f args' res:=h.sub fun _ _ _ hv=>hw.all2 hv
theorem Sp.rs {f:FuncId}{args:List CT}{res res':TV}(h:Sp P I f args res)(hr:TVle res res'):Sp P I f args res':=h.res fun N w v hv=>hr N w G0 v hv
theorem QG {l l':List CT}(h:WkA l l'):TVle (.tu l) (.tu l'):=fun _ _ _ _ ⟨vs,e,hv⟩=>⟨vs,e,h.all2 hv⟩
def WkE:Env→Env→Prop
 | [],[]=>True
 | (t,v)::E,(t',v')::E'=>t=t'∧TVle v v'∧WkE E E'
 | _,_=>False
def WkB:Bxs→Bxs→Prop
 | [],[]=>True
 | (k,some e)::B,(k',some e')::B'=>k=k'∧e.T=e'.T∧e.sl=e'.sl∧ILe e.its e'.its∧WkB B B'
 | _,_=>False
theorem WkE.look : ∀ {E E':Env} {t:Nat} {v':TV},WkE E E'→look E' t=some v' → ∃ v,Go.Proofs.YtdgbealknnmkoaaGreatDoor.look E t=some v∧TVle v v'
 | [],[],_,_,_,h=>by cases h
 | (t,v)::E,(t',v')::E',q,u,hw,h=>by
  obtain ⟨rfl,h1,h2⟩:=hw;rw[Cc] at h ⊢;by_cases hq:t=q
  ·rw[if_pos hq] at h ⊢
   injection h with h;subst h;exact ⟨v,rfl,h1⟩
  ·rw[if_neg hq] at h ⊢
   exact WkE.look h2 h
 | [],_::_,_,_,hw,_=>hw.elim
 | _::_,[],_,_,hw,_=>hw.elim
theorem WkB.look : ∀ {B B':Bxs} {k:Nat} {e':Ent},WkB B B'→AE B' k=some e' → ∃ e,AE B k=some e∧e.T=e'.T∧e.sl=e'.sl∧ILe e.its e'.its
 | [],[],_,_,_,h=>by cases h
 | (k,some e)::B,(k',some e')::B',q,u,hw,h=>by
  obtain ⟨rfl,h1,h2,h3,h4⟩:=hw;rw[Bf] at h ⊢;by_cases hq:k=q
  ·rw[if_pos hq] at h ⊢
   injection h with h;subst h;exact ⟨e,rfl,h1,h2,h3⟩
  ·rw[if_neg hq] at h ⊢
   exact WkB.look h4 h
 | [],_::_,_,_,hw,_=>hw.elim
 | (_,some _)::_,[],_,_,hw,_=>hw.elim
 | (_,none)::_,[],_,_,hw,_=>hw.elim
 | (_,none)::_,(_,_)::_,_,_,hw,_=>hw.elim
 | (_,some _)::_,(_,none)::_,_,_,hw,_=>hw.elim
theorem BoxSem.le {N:Nat→Prop}{w:World}{g:Gh}{base:Nat→Prop}{k:Nat}{e e':Ent}(h:BoxSem N w g base k e)(hT:e.T=e'.T)(hs:e.sl=e'.sl)(hi:ILe e.its e'.its):BoxSem N w g base k e':=by
 obtain ⟨T,sl,its⟩:=e;obtain ⟨T',sl',its'⟩:=e';simp only at hT hs hi;subst hT hs;obtain ⟨gv,h1,h2⟩:=h;refine ⟨gv,h1,?_⟩;rcases h2 with ⟨s,n,r1,r2,r3,r4⟩ | ⟨b,cs,l,r1,r2,r3,r4⟩
 ·exact .inl ⟨s,n,r1,r2,r3,hi _ _ _ _ r4⟩
 ·exact .inr ⟨b,cs,l,r1,r2,hi _ _ _ _ r3,r4⟩
theorem Mx {E E':Env}{B B':Bxs}{nx:Nat}(hE:WkE E E')(hB:WkB B B'):Leads I nt ⟨E,B,nx⟩ ⟨E',B',nx⟩:=by
 rintro N0 w0 a w ⟨N,g,h1,h2⟩;refine ⟨N,g,{ h1 with slots := ?_,boxes := ?_,inj := ?_ },h2⟩
 ·intro t v hv
  obtain ⟨u,hu,hle⟩:=hE.look hv;exact hle N w g _ (h1.slots t u hu)
 ·intro k e he
  obtain ⟨u,hu,q1,q2,q3⟩:=hB.look he;exact (h1.boxes k u hu).le q1 q2 q3
 ·intro k j e e' b q1 q2 q3 q4
  obtain ⟨u,hu,_⟩:=hB.look q1;obtain ⟨v,hv,_⟩:=hB.look q2;exact h1.inj k j u v b hu hv q3 q4
theorem LoopTr.pre {c:Code}{a a' b:St}{ex:Exit}(hl:Leads I nt a a')(h:LoopTr P I nt c a' ex b):LoopTr P I nt c a ex b:=fun N0 w0 act w hs=>h N0 w0 act w (hl N0 w0 act w hs)
theorem Leads.trans {a b c:St}(h:Leads I nt a b)(h':Leads I nt b c):Leads I nt a c:=fun N0 w0 act w hs=>h' N0 w0 act w (h N0 w0 act w hs)
def Aa (rows:List (List It0)):List It:=rows.flatten.map It.b
theorem Nv (rows:List (List It0))(r:List It0):Aa rows++r.map It.b=Aa (rows++[r]):=by simp[Aa]
theorem C6 (a b:List (List It0)):Aa (a++b)=Aa a++Aa b:=by simp[Aa]
theorem Aa1 (k:Nat)(l:List It0):(l.map It.b).all (It.av k)=true:=by
 rw[List.all_eq_true];intro x hx;obtain ⟨y,_,rfl⟩:=List.mem_map.1 hx;rfl
theorem Aw (l:List It0):(l.map It.b).all It.noPtr=true:=by
 rw[List.all_eq_true];intro x hx;obtain ⟨y,_,rfl⟩:=List.mem_map.1 hx;rfl
theorem Qb (k:Nat)(l:List It0):(l.map It.b).all (It.lt k)=true:=by
 rw[List.all_eq_true];intro x hx;obtain ⟨y,_,rfl⟩:=List.mem_map.1 hx;rfl
theorem Rnd.grow {c:Code}{s:St}{ex:Exit}{t k k' nx n T sz:Nat}{E:Env}{B:Bxs}{rows:List (List It0)}{row:List It0}(h:Rnd P I nt c s ex ⟨(t,.cv (.one (.sl k')))::E,(k',some ⟨T,some (sz,rows.length+1),Aa rows++row.map It.b⟩)::B,nx⟩)
  (h1:(avE k E&&avB k B&&ltE n E&&ltB n B&&Nat.blt k n&&Nat.blt k nx&&Nat.ble 4 k)=true) (h2:AE B k'=none):Rnd P I nt c s ex ⟨(t,.s k)::E,(k,some ⟨T,some (sz,(rows++[row]).length),Aa (rows++[row])⟩)::B,n⟩:=by
 simp only[Bool.and_eq_true] at h1;obtain ⟨⟨⟨⟨⟨⟨a1,a2⟩,a3⟩,a4⟩,a5⟩,a6⟩,a7⟩:=h1;have a8:=Nat.le_of_ble_eq_true a7;have a9:=Fa a5;rw[Nv] at h;rw[show rows.length+1=(rows++[row]).length by simp] at h
 have r:=h.leads (KL (k:=k) a1 a2 (Aa1 k _) (Fa a6) h2);refine r.leads (Lj ?_ ?_)
 ·simp only[ltE,TV.lt,CT.lt,It.lt,a5,a3,Bool.and_self]
 ·simp only[ltB,Aa,Qb,a5,a4,Bool.and_self]
theorem Rnd.cut {c:Code}{s:St}{ex:Exit}{t k nx n T:Nat}{sl:Option (Nat×Nat)}{E:Env}{B:Bxs}{rows:List (List It0)}(h:Rnd P I nt c s ex ⟨(t,.s k)::E,(k,some ⟨T,sl,Aa rows⟩)::B,nx⟩)
  (h1:(ltE n E&&ltB n B&&Nat.blt k n&&Nat.ble 4 n)=true):Rnd P I nt c s ex ⟨(t,.s k)::E,(k,some ⟨T,sl,Aa rows⟩)::B,n⟩:=by
 simp only[Bool.and_eq_true] at h1;obtain ⟨⟨⟨a3,a4⟩,a5⟩,a6⟩:=h1;have a7:=Nat.le_of_ble_eq_true a6;refine h.leads (Lj ?_ ?_)
 ·simp only[ltE,TV.lt,CT.lt,It.lt,a5,a3,Bool.and_self]
 ·simp only[ltB,Aa,Qb,a5,a4,Bool.and_self]
theorem UM : ∀ (a b:List It) (off:Nat),(∀ x∈a,0 < x.n)→Cn (a++b) (Cf a+off)=(Cn b off).map fun p=>(a++p.1,p.2)
 | [],b,off,_=>by
  rw[show Cf []=0 from rfl,Nat.zero_add,List.nil_append];cases Cn b off <;> rfl
 | x::a,b,off,h=>by
  have hx:=h x (by simp)
  have hw:Cf (x::a)=x.n+Cf a:=by simp[Cf]
  obtain ⟨m,hm⟩ : ∃ m,Cf (x::a)+off=m+1:=⟨Cf (x::a)+off - 1,by omega⟩
  rw[hm,List.cons_append,Cn,if_pos (by omega),show m+1 - x.n=Cf a+off by omega,UM a b off fun y hy=>h y (by simp[hy])]
  cases Cn b off <;> rfl
theorem Mk {c:List It} : ∀ {l:List It} {off:Nat} {a b:List It},Cn l off=some (a,b)→Cn (l++c) off=some (a,b++c)
 | l,0,a,b,h=>by
  have e : ∀ l:List It,Cn l 0=some ([],l):=fun l=>by cases l <;> rfl
  rw[e] at h ⊢;injection h with h;injection h with h1 h2;subst h1 h2
  rfl
 | [],_+1,_,_,h=>by cases h
 | x::xs,off+1,a,b,h=>by
  rw[List.cons_append];simp only[Cn] at h ⊢;split at h
  ·rename_i hx
   rw[if_pos hx];cases hc:Cn xs (off+1 - x.n) with
   | none=>rw[hc] at h;cases h
   | some p =>
    rw[hc] at h;injection h with h;injection h with h1 h2;subst h1 h2;rw[Mk hc]
    rfl
  ·cases h
def okR (sz:Nat)(rows:List (List It0)):Prop := ∀ r∈rows,Ce r=sz ∧ ∀ x∈r,0 < x.n
theorem RV {sz:Nat}{rows:List (List It0)}(h:okR sz rows):Cf (Aa rows)=rows.length*sz ∧ ∀ x∈Aa rows,0 < x.n:=by
 refine ⟨?_,?_⟩
 ·unfold Aa
  rw[Mw];induction rows with
  | nil=>simp[Ce]
  | cons r rows ih =>
   have h1:=(h r (by simp)).1
   have h2:=ih fun q hq=>h q (by simp[hq])
   have e:Ce (r++rows.flatten)=Ce r+Ce rows.flatten:=by simp[Ce]
   rw[List.flatten_cons,e,h1,h2,List.length_cons,Nat.add_mul];omega
 ·intro x hx
  obtain ⟨y,hy,rfl⟩:=List.mem_map.1 hx;obtain ⟨r,hr,hy⟩:=List.mem_flatten.1 hy;exact (h r hr).2 y hy
theorem MO {rows:List (List It0)}{i:Nat}{r:List It0}(hr:rows[i]? = some r):rows=rows.take i++r::rows.drop (i+1)∧(rows.take i).length=i:=by
 obtain ⟨h1,h2⟩:=List.getElem?_eq_some_iff.1 hr;refine ⟨?_,by rw[List.length_take];omega⟩
 rw[←h2,List.getElem_cons_drop,List.take_append_drop]
theorem Si {sz i:Nat}{rows:List (List It0)}{r:List It0}(hr:rows[i]? = some r)(hw:okR sz rows){fo:Nat}{a b:List It}(h:Cn (r.map It.b) fo=some (a,b)):Cn (Aa rows) (i*sz+fo)=some (Aa (rows.take i)++a,b++Aa (rows.drop (i+1))):=by
 obtain ⟨h1,h2⟩:=MO hr;have hpre:okR sz (rows.take i):=fun q hq=>hw q (List.mem_of_mem_take hq)
 obtain ⟨g1,g2⟩:=RV hpre;rw[h2] at g1;have e:Aa rows=Aa (rows.take i)++(r.map It.b++Aa (rows.drop (i+1))):=by
  conv=>lhs;rw[h1]
  rw[C6];simp[Aa]
 rw[e,←g1,UM _ _ _ g2,Mk h]
 rfl
theorem Hg {sz i:Nat}{rows:List (List It0)}{r:List It0}(hr:rows[i]? = some r)(hw:okR sz rows){fo n:Nat}{m:List It}(h:Gt (r.map It.b) fo n=some m):Gt (Aa rows) (i*sz+fo) n=some m:=by
 unfold Gt at h ⊢;split at h
 ·rename_i a b hc
  rw[Si hr hw hc];cases hc2:Cn b n with
  | none=>rw[hc2] at h;cases h
  | some p =>
   rw[hc2] at h;injection h with h;subst h;simp only[Mk hc2,Option.map_some]
 ·cases h
theorem JC {sz i:Nat}{rows:List (List It0)}{r r':List It0}(hr:rows[i]? = some r)(hw:okR sz rows){fo:Nat}{new:List It}(h:EE (r.map It.b) fo new=some (r'.map It.b)):EE (Aa rows) (i*sz+fo) new=some (Aa (rows.set i r')):=by
 unfold EE at h ⊢;split at h
 ·rename_i a b hc
  rw[Si hr hw hc];cases hc2:Cn b (Cf new) with
  | none=>rw[hc2] at h;cases h
  | some p =>
   rw[hc2] at h;injection h with h;simp only[Mk hc2,Option.map_some];obtain ⟨h1,h2⟩:=MO hr;have hlt:i < rows.length:=(List.getElem?_eq_some_iff.1 hr).1;have e:rows.set i r'=rows.take i++r'::rows.drop (i+1):=by rw[List.set_eq_take_append_cons_drop,if_pos hlt]
   rw[e,C6];congr 1;have:Aa (r'::rows.drop (i+1))=r'.map It.b++Aa (rows.drop (i+1)):=by simp[Aa]
   rw[this,←h];simp
 ·cases h
theorem V9 {α:Type}{f f':Nat→α}{n i:Nat}(h : ∀ x,x≠i→x < n→f x=f' x):((List.range n).map f).set i (f' i)=(List.range n).map f':=by
 apply List.ext_getElem?;intro x;rw[List.getElem?_set];by_cases hx:i=x
 ·subst hx
  rw[if_pos rfl];by_cases hn:i < n
  ·rw[if_pos (by simpa using hn),List.getElem?_map,List.getElem?_range hn];rfl
  ·rw[if_neg (by simpa using hn),List.getElem?_map,List.getElem?_eq_none (by simpa using Nat.not_lt.1 hn)];rfl
 ·rw[if_neg hx,List.getElem?_map,List.getElem?_map]
  by_cases hn:x < n
  ·rw[List.getElem?_range hn]
   simp[h x (Ne.symm hx) hn]
  ·rw[List.getElem?_eq_none (by simpa using Nat.not_lt.1 hn)];rfl
theorem SR {α:Type}{f:Nat→α}{n i:Nat}(h:i < n):((List.range n).map f)[i]? = some (f i):=by rw[List.getElem?_map,List.getElem?_range h];rfl
def AQ (chk:Nat→Int):Nat→Nat→Int
 | 0,_=>0
 | L+1,i=>if chk i=0 then AQ chk L (i+1) else chk i
theorem Br {chk:Nat→Int} : ∀ {L i:Nat},AQ chk L i=0 ↔ ∀ j,i≤j→j < i+L→chk j=0
 | 0,i=>⟨fun _ j h1 h2=>by omega,fun _=>rfl⟩
 | L+1,i=>by
  unfold AQ;by_cases h:chk i=0
  ·rw[if_pos h,Br]
   refine ⟨fun hh j h1 h2 => ?_,fun hh j h1 h2=>hh j (by omega) (by omega)⟩
   by_cases hj:j=i
   ·rw[hj];exact h
   ·exact hh j (by omega) (by omega)
  ·rw[if_neg h]
   exact ⟨fun hh=>absurd hh h,fun hh=>hh i (Nat.le_refl _) (by omega)⟩
theorem Nw {chk:Nat→Int} : ∀ {L i:Nat},AQ chk L i≠0 → ∃ j,i≤j∧j < i+L∧(∀ x,i≤x→x < j→chk x=0)∧chk j=AQ chk L i
 | 0,i=>fun h=>absurd rfl h
 | L+1,i=>fun h=>by
  unfold AQ at h ⊢;by_cases hc:chk i=0
  ·rw[if_pos hc] at h ⊢
   obtain ⟨j,h1,h2,h3,h4⟩:=Nw h;refine ⟨j,by omega,by omega,fun x hx1 hx2 => ?_,h4⟩
   by_cases hxi:x=i
   ·rw[hxi];exact hc
   ·exact h3 x (by omega) hx2
  ·rw[if_neg hc]
   exact ⟨i,Nat.le_refl _,by omega,fun x h1 h2=>by omega,rfl⟩
theorem CM {c:Code}{e:Nat}{b0:St}(chk:Nat→Int)(L:Nat)(s:Nat→St)(bc:Int→St)(step : ∀ i,i < L→chk i=0→Rnd P I nt c (s i) .normal (s (i+1)))(fin:Rnd P I nt c (s L) (.exit e) b0)(bad : ∀ i,i < L→chk i≠0→Rnd P I nt c (s i) .ret (bc (chk i))) :
  (AQ chk L 0=0→LoopTr P I nt c (s 0) (.exit e) b0)∧(AQ chk L 0≠0→LoopTr P I nt c (s 0) .ret (bc (AQ chk L 0))):=by
 refine ⟨fun h => ?_,fun h => ?_⟩
 ·have hz:=Br.1 h
  exact Bq (by simp) s L (fun i hi=>step i hi (hz i (Nat.zero_le _) (by omega))) fin
 ·obtain ⟨j,_,h2,h3,h4⟩:=Nw h
  have hb:=bad j (by omega) (by rw[h4];exact h)
  rw[h4] at hb;exact Bq (by simp) s j (fun i hi=>step i (by omega) (h3 i (Nat.zero_le _) hi)) hb
end
def swN (k k' x:Nat):Nat:=if Nat.beq x k then k' else if Nat.beq x k' then k else x
theorem Xv (k k' x:Nat):swN k k' x=if x=k then k' else if x=k' then k else x:=by
 unfold swN;by_cases h1:x=k
 ·subst h1;simp
 ·by_cases h2:x=k'
  ·subst h2;simp[h1]
  ·simp[h1,h2]
theorem ZQ (k k' x:Nat):swN k k' (swN k k' x)=x:=by
 simp only[Xv];by_cases h1:x=k
 ·subst h1
  by_cases h2:k'=x
  ·simp[h2]
  ·simp[h2]
 ·by_cases h2:x=k'
  ·subst h2;simp[h1]
  ·simp[h1,h2]
theorem TY {k k' x:Nat}(h1:x≠k)(h2:x≠k'):swN k k' x=x:=by rw[Xv,if_neg h1,if_neg h2]
def swE (f:Nat→Nat):Env→Env
 | []=>[]
 | (t,v)::r=>(t,v.mapN f)::swE f r
def swB (f:Nat→Nat):Bxs→Bxs
 | []=>[]
 | (k,some e)::r=>(f k,some (e.out f))::swB f r
 | (k,none)::r=>(f k,none)::swB f r
def PV:List (Nat×Nat)→St→St
 | [],s=>s
 | (k,k')::r,s=>PV r ⟨swE (swN k k') s.E,swB (swN k k') s.B,s.nx⟩
def Rz:List (Nat×Nat)→Nat→Bool
 | [],_=>true
 | (k,k')::r,nx=>(Nat.beq k 2||Nat.ble 4 k)&&(Nat.beq k' 2||Nat.ble 4 k')&&Nat.blt k nx&&Nat.blt k' nx&&Rz r nx
def pT (_:Nat):Bool:=true
theorem It.all_pT (x:It):x.allN pT=true:=by cases x <;> first | rfl | (simp[It.allN,pT])
theorem OJ (l:List It):l.all (It.allN pT)=true:=List.all_eq_true.2 fun x _=>It.all_pT x
theorem CT.all_pT (c:CT):c.allN pT=true:=by cases c with
 | one x=>exact It.all_pT x
 | ag l=>exact OJ l
theorem TV.all_pT (c:TV):c.allN pT=true:=by cases c with
 | cv x=>exact CT.all_pT x
 | tu l=>exact List.all_eq_true.2 fun x _=>CT.all_pT x
theorem Ent.ok_pT (e:Ent):e.okN pT=true:=by unfold Ent.okN;rw[OJ,Bool.or_true]
theorem QL {f:Nat→Nat} : ∀ {E:Env} {t:Nat} {v:TV},look (swE f E) t=some v → ∃ u,look E t=some u∧v=u.mapN f
 | [],_,_,h=>by cases h
 | (q,u)::r,t,v,h=>by
  unfold swE at h;rw[Cc] at h ⊢;by_cases hq:q=t
  ·rw[if_pos hq] at h ⊢;injection h with h;exact ⟨u,rfl,h.symm⟩
  ·rw[if_neg hq] at h ⊢;exact QL h
theorem G3 {f:Nat→Nat}(hf : ∀ x,f (f x)=x) : ∀ {B:Bxs} {k:Nat} {e:Ent},AE (swB f B) k=some e → ∃ u,AE B (f k)=some u∧e=u.out f
 | [],_,_,h=>by cases h
 | (q,some u)::r,k,e,h=>by
  unfold swB at h;rw[Bf] at h ⊢;by_cases hq:f q=k
  ·rw[if_pos hq] at h;rw[if_pos (by rw[←hq,hf])];injection h with h;exact ⟨u,rfl,h.symm⟩
  ·rw[if_neg hq] at h;rw[if_neg (fun hh=>hq (by rw[hh,hf]))];exact G3 hf h
 | (q,none)::r,k,e,h=>by
  unfold swB at h;rw[Bf] at h ⊢;by_cases hq:f q=k
  ·rw[if_pos hq] at h;cases h
  ·rw[if_neg hq] at h;rw[if_neg (fun hh=>hq (by rw[hh,hf]))];exact G3 hf h
theorem NpB.sw {f:Nat→Nat} : ∀ {B:Bxs},NpB B→NpB (swB f B)
 | [],h=>h
 | (k,none)::r,h=>NpB.sw (B:=r) h
 | (k,some e)::r,h=>by
  refine ⟨fun hs => ?_,NpB.sw h.2⟩
  by_cases he:e.sl.isSome=true
  ·rw[Ent.out_sl he];exact h.1 he
  ·unfold Ent.out at hs
   rw[if_neg he] at hs;exact absurd hs he
def RA (nx:Nat):Bxs→Bool
 | []=>true
 | (k,some e)::r=>Nat.blt k nx&&(e.sl.isSome||e.its.all (It.lt nx))&&RA nx r
 | (_,none)::r=>RA nx r
theorem La {nx:Nat} : ∀ {B:Bxs} {t:Nat} {e:Ent},RA nx B=true→AE B t=some e→t < nx∧(e.sl.isSome||e.its.all (It.lt nx))=true
 | [],_,_,_,h=>by cases h
 | (k,some u)::r,t,e,h,hv=>by
  simp only[RA,Bool.and_eq_true] at h;simp only[AE] at hv;split at hv
  ·rename_i hk
   injection hv with hv;rw[←hv,←Nat.eq_of_beq_eq_true hk];exact ⟨Fa h.1.1,h.1.2⟩
  ·exact La h.2 hv
 | (k,none)::r,t,e,h,hv=>by
  simp only[RA] at h;simp only[AE] at hv;split at hv
  ·cases hv
  ·exact La h hv
theorem Yd {l:List It}(nx:Nat)(h:l.all It.noPtr=true):l.all (It.lt nx)=true:=by
 rw[List.all_eq_true] at h ⊢;intro x hx;have:=h x hx;cases x with
 | b _=>rfl
 | fp _=>rfl
 | ptr _ _=>cases this
 | sl _=>cases this
 | clo _ _=>cases this
theorem BU {a b:List It}(h:a.all It.noPtr=true)(h':b.all It.noPtr=true):(a++b).all It.noPtr=true:=by rw[List.all_append,h,h'];rfl
section
variable {P:Program}{I:WInv}{nt:Nat}
theorem Xu {E:Env}{B:Bxs}{nx k k':Nat}(hnp:NpB B)(h1:k=2∨4≤k)(h2:k'=2∨4≤k')(h3:k < nx)(h4:k' < nx):Leads I nt ⟨E,B,nx⟩ ⟨swE (swN k k') E,swB (swN k k') B,nx⟩:=by
 rintro N0 w0 a w ⟨N,g,q1,q2⟩;have hinv:=ZQ k k';have hg : ∀ j,pT j=true→(fun x=>g (swN k k' x)) (swN k k' j)=g j:=fun j _=>by show g (swN k k' (swN k k' j))=g j;rw[hinv]
 have hb : ∀ x,AJ (fun x=>g (swN k k' x)) x=AJ g (swN k k' x):=fun x=>rfl
 refine ⟨N,fun x=>g (swN k k' x),{ q1 with slots := ?_,boxes := ?_,inj := ?_,rig := ?_ },?_⟩
 ·intro t v hv
  obtain ⟨u,hu,rfl⟩:=QL hv;exact TV.mapN_sem (g2:=fun x=>g (swN k k' x)) (f:=swN k k') hg (TV.all_pT u) (q1.slots t u hu)
 ·intro x e he
  obtain ⟨u,hu,rfl⟩:=G3 hinv he;have:=(q1.boxes _ u hu).mapN (g2:=fun x=>g (swN k k' x)) (f:=swN k k') (p:=pT) hg rfl (Ent.ok_pT u) (FE hnp hu)
  rw[hinv] at this;exact this
 ·intro x y e e' b r1 r2 r3 r4
  obtain ⟨u,hu,_⟩:=G3 hinv r1;obtain ⟨v,hv,_⟩:=G3 hinv r2;have:=q1.inj _ _ u v b hu hv r3 r4;rw[←hinv x,this,hinv]
 ·intro x v hv
  have:=w0.lo x v hv;show g (swN k k' x)=some v;rw[TY (by omega) (by omega)]
  exact q1.rig x v hv
 ·intro x hx
  have hx:nx≤x:=hx;show g (swN k k' x)=none;rw[TY (by omega) (by omega)]
  exact q2 x hx
theorem Adf {k:Nat}(h:(Nat.beq k 2||Nat.ble 4 k)=true):k=2∨4≤k:=by
 rw[Bool.or_eq_true] at h;exact h.imp Nat.eq_of_beq_eq_true Nat.le_of_ble_eq_true
theorem U0 : ∀ (l:List (Nat×Nat)) (s:St),(PV l s).nx=s.nx
 | [],s=>rfl
 | (k,k')::r,s=>by rw[PV,U0 r]
theorem Nk : ∀ (l:List (Nat×Nat)) (s:St),Rz l s.nx=true→NpB s.B→Leads I nt s (PV l s)
 | [],s,_,_=>fun _ _ _ _ h=>h
 | (k,k')::r,s,h,hnp=>by
  simp only[Rz,Bool.and_eq_true] at h;obtain ⟨⟨⟨⟨h1,h2⟩,h3⟩,h4⟩,h5⟩:=h;exact (Xu hnp (Adf h1) (Adf h2) (Fa h3) (Fa h4)).trans (Nk r _ h5 hnp.sw)
theorem T7 {E:Env}{B:Bxs}{nx nx':Nat}(hE:ltE nx' E=true)(hB:RA nx' B=true)(hnp:NpB B)(h2n:4≤nx'):Leads I nt ⟨E,B,nx⟩ ⟨E,B,nx'⟩:=by
 rintro N0 w0 a w ⟨N,g,h1,h2⟩;have hlt : ∀ {k e},AE B k=some e→k < nx'∧e.its.all (It.lt nx')=true:=fun he=>by
  obtain ⟨r1,r2⟩:=La hB he;refine ⟨r1,?_⟩;rw[Bool.or_eq_true] at r2;exact r2.elim (fun hs=>Yd _ (FE hnp he hs)) id
 refine ⟨N,Gv g nx',{ h1 with slots:=fun t v hv=>TV.lt_sem (JZ hE hv) (h1.slots t v hv),boxes:=fun k e he=>(h1.boxes k e he).cut (hlt he).1 (hlt he).2,inj := ?_,rig:=fun x v hv=>by rw[Hy (by have:=w0.lo x v hv;omega)];exact h1.rig x v hv },fun k hk=>by show Gv g nx' k=none;unfold Gv;rw[if_neg (Nat.not_lt.2 hk)]⟩
 intro k j e e' bb q1 q2 q3 q4;rw[El (hlt q1).1] at q3;rw[El (hlt q2).1] at q4;exact h1.inj k j e e' bb q1 q2 q3 q4
theorem AL (l:List (Nat×Nat)){s t:St}(hE:WkE (PV l s).E t.E)(hB:WkB (PV l s).B t.B)(h1:Rz l s.nx=true:=by rfl)(hnp:NpB s.B:=by repeat' first | exact trivial | exact fun h=>absurd h Bool.false_ne_true | exact fun _=>Aw _ | exact fun _=>rfl | exact fun _=>BU (Aw _) rfl | refine ⟨?_,?_⟩)(hnp2:NpB t.B:=by repeat' first | exact trivial | exact fun h=>absurd h Bool.false_ne_true | exact fun _=>Aw _ | exact fun _=>rfl | exact fun _=>BU (Aw _) rfl | refine ⟨?_,?_⟩)(hn:(Nat.ble s.nx t.nx||(Nat.ble 4 t.nx&&ltE t.nx t.E&&RA t.nx t.B))=true:=by rfl):Leads I nt s t:=by
 have hx:=U0 l s;have a:=Nk (I:=I) (nt:=nt) l s h1 hnp;have b:Leads I nt (PV l s) ⟨t.E,t.B,s.nx⟩:=by rw[←hx];exact Mx hE hB
 refine (a.trans b).trans ?_;rw[Bool.or_eq_true,Bool.and_eq_true,Bool.and_eq_true] at hn;rcases hn with hn | ⟨⟨h2,h3⟩,h4⟩
 ·rintro N0 w0 a w ⟨N,g,q1,q2⟩
  exact ⟨N,g,q1,fun k hk=>q2 k (Nat.le_trans (Nat.le_of_ble_eq_true hn) hk)⟩
 ·exact T7 h3 h4 hnp2 (Nat.le_of_ble_eq_true h2)
theorem Rnd.nam (l:List (Nat×Nat)){c:Code}{r s t:St}{ex:Exit}(h:Rnd P I nt c r ex s)(hE:WkE (PV l s).E t.E)(hB:WkB (PV l s).B t.B)(h1:Rz l s.nx=true:=by rfl)(hnp:NpB s.B:=by repeat' first | exact trivial | exact fun h=>absurd h Bool.false_ne_true | exact fun _=>Aw _ | exact fun _=>rfl | exact fun _=>BU (Aw _) rfl | refine ⟨?_,?_⟩)(hnp2:NpB t.B:=by repeat' first | exact trivial | exact fun h=>absurd h Bool.false_ne_true | exact fun _=>Aw _ | exact fun _=>rfl | exact fun _=>BU (Aw _) rfl | refine ⟨?_,?_⟩)(hn:(Nat.ble s.nx t.nx||(Nat.ble 4 t.nx&&ltE t.nx t.E&&RA t.nx t.B))=true:=by rfl):Rnd P I nt c r ex t :=
 h.leads (AL l hE hB h1 hnp hnp2 hn)
def PickE (E:Env):Env→Prop
 | []=>True
 | (t,v)::r=>look E t=some v∧PickE E r
def PickB (B:Bxs):Bxs→Prop
 | []=>True
 | (k,some e)::r=>AE B k=some e∧PickB B r
 | (_,none)::r=>False
theorem PickE.look {E:Env} : ∀ {F:Env} {t:Nat} {v:TV},PickE E F→look F t=some v→Go.Proofs.YtdgbealknnmkoaaGreatDoor.look E t=some v
 | [],_,_,_,h=>by cases h
 | (q,u)::r,t,v,hp,h=>by
  rw[Cc] at h;by_cases hq:q=t
  ·rw[if_pos hq] at h;rw[←hq,←h];exact hp.1
  ·rw[if_neg hq] at h;exact PickE.look hp.2 h
theorem PickB.look {B:Bxs} : ∀ {F:Bxs} {k:Nat} {e:Ent},PickB B F→AE F k=some e→AE B k=some e
 | [],_,_,_,h=>by cases h
 | (q,some u)::r,k,e,hp,h=>by
  rw[Bf] at h;by_cases hq:q=k
  ·rw[if_pos hq] at h;rw[←hq,←h];exact hp.1
  ·rw[if_neg hq] at h;exact PickB.look hp.2 h
 | (q,none)::r,_,_,hp,_=>hp.elim
theorem Ju {E E':Env}{B B':Bxs}{nx:Nat}(hE:PickE E E')(hB:PickB B B'):Leads I nt ⟨E,B,nx⟩ ⟨E',B',nx⟩:=by
 rintro N0 w0 a w ⟨N,g,h1,h2⟩;exact ⟨N,g,h1.weak (fun _ _ h=>hE.look h) (fun _ _ h=>hB.look h),h2⟩
theorem Gc {t k nx:Nat}{E:Env}{B:Bxs}(T s:Nat)(h:look E t=some (B0 (.slice none 0 0)))(h1:(avE k E&&avB k B&&Nat.blt k nx&&(Nat.beq k 2||Nat.ble 4 k))=true)(hB:AE B nx=none):Leads I nt ⟨E,B,nx⟩ ⟨(t,.s k)::E,(k,some ⟨T,some (s,0),[]⟩)::B,nx+1⟩:=by
 simp only[Bool.and_eq_true] at h1;have:=Adf h1.2;have a:Leads I nt ⟨E,B,nx⟩ ⟨(t,B0 (.slice none 0 0))::E,B,nx⟩:=by
  rintro N0 w0 a w ⟨N,g,q1,q2⟩;refine ⟨N,g,q1.weak (fun q v hv => ?_) (fun _ _ h=>h),q2⟩
  rw[Cc] at hv;by_cases hq:t=q
  ·rw[if_pos hq] at hv;rw[←hq,←hv];exact h
  ·rw[if_neg hq] at hv;exact hv
 exact a.trans ((OA T s).trans (KL (k:=k) h1.1.1.1 h1.1.1.2 rfl (Nat.lt_succ_of_lt (Fa h1.1.2)) hB))
theorem ILe.eq {l l':List It}(h:l=l'):ILe l l':=h▸ILe.refl
end
end Go.Proofs.YtdgbealknnmkoaaGreatDoor
