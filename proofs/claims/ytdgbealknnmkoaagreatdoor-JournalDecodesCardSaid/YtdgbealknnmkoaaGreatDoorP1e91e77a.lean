/- Texts of one proof, put together by a program: each lemma is proved for all values of its variables, under the premises that it states. -/
import Derived.Test.YtdgbealknnmkoaaGreatDoorPe8002c4f
import Derived.Test.YtdgbealknnmkoaaGreatDoorP55896382
set_option linter.unusedVariables false
set_option linter.unusedSimpArgs false
namespace Go.Proofs.YtdgbealknnmkoaaGreatDoor
open Go Go.RowKit
theorem OQ {N : Nat → Prop} {w w' : World} {A : Option Addr} {n : Nat} {xs : List Nat} (hw : WStep N w w') (h : Rd .u32 w w.heap.size A n xs) : Rd .u32 w' w'.heap.size A n xs := by
 refine ⟨h.1,fun hn => ?_⟩
 obtain ⟨b,off,hA,hb,hc⟩:=h.2 hn;refine ⟨b,off,hA,Nat.lt_of_lt_of_le hb hw.size,fun j x hx => ?_⟩
 have h1:=hc j x hx;rcases hw.keep b hb with e | e
 ·rw[World.cell?_of_block (w:=w) (a:=⟨b,off+j,none⟩) e];exact h1
 ·exfalso
  have hq:=e.2;cases ho:w.heap[b]? with
  | none=>rw[ho] at hq;exact hq
  | some o =>
   rw[ho] at hq;cases o with
   | cells cs T fr =>
    simp only[World.cell?,ho] at h1;have hm:(Value.int .u32 (x:Int))∈cs.toList:=by
     simp at h1;exact Array.mem_toList_iff.2 (Array.mem_of_getElem? h1)
    have:=hq _ hm;simp[Pa] at this
   | _=>exact hq
theorem AInt.step {N:Nat→Prop}{w w':World}{s:Bool}{A:Option Addr}{n c:Nat}{z:Int}(h:AInt w s A n c z)(hw:WStep N w w'):AInt w' s A n c z:=by
 obtain ⟨ds,h1,h2⟩:=h;exact ⟨ds,OQ hw h1,h2⟩
theorem CInt.step {N:Nat→Prop}{w w':World}{s:Bool}{A:Option Addr}{n c:Nat}{z:Int}(h:CInt w s A n c z)(hw:WStep N w w'):CInt w' s A n c z:=⟨OQ hw h.1,h.2⟩
structure IntP where
 T:World→Bool→Option Addr→Nat→Nat→Prop
 step : ∀ {N:Nat→Prop} {w w':World} {s:Bool} {A:Option Addr} {n c:Nat},WStep N w w'→T w s A n c→T w' s A n c
def IP (q:IntP):Item where
 n:=2
 T:=fun _ w l => ∃ s A n c,l=[.bool s,.slice A n c]∧q.T w s A n c
 step:=fun hw _ ⟨s,A,n,c,e,h⟩=>⟨s,A,n,c,e,q.step hw h⟩
 len:=fun ⟨s,A,n,c,e,h⟩=>by rw[e];rfl
 one:=fun ⟨s,A,n,c,e,h⟩=>by rw[e];intro v hv;simp at hv;rcases hv with rfl | rfl <;> rfl
def cP (z:Int):IntP:=⟨fun w s A n c=>CInt w s A n c z,fun hw h=>h.step hw⟩
def aP (m:Nat)(z:Int):IntP:=⟨fun w s A n c=>AInt w s A n c z∧n≤m,fun hw h=>⟨h.1.step hw,h.2⟩⟩
abbrev ip (q:IntP):List It:=[.b (.it (IP q))]
abbrev ic (z:Int):List It:=ip (cP z)
abbrev ia (m:Nat)(z:Int):List It:=ip (aP m z)
def Nm:List It:=[.o false,.z]
def Num (x:List It)(z:Int):Prop := ∀ N w l,Bt N w G0 x l → ∃ s A n c,l=[.bool s,.slice A n c]∧AInt w s A n c z∧n≤1048576
def Can (x:List It)(z:Int):Prop := ∀ N w l,Bt N w G0 x l → ∃ s A n c,l=[.bool s,.slice A n c]∧CInt w s A n c z
theorem Dx {N:Nat→Prop}{w:World}{g:Gh}{x:It}{l:List Value}(h:Bt N w g [x] l):x.sem N w g l:=by
 obtain ⟨l1,l2,e,h1,h2⟩:=h;rw[show l2=[] from h2,List.append_nil] at e;rw[e];exact h1
theorem CD {N:Nat→Prop}{w:World}{g:Gh}{x:It}{l:List Value}(h:x.sem N w g l):Bt N w g [x] l:=⟨l,[],by simp,h,rfl⟩
theorem Acx (z:Int):Can (ic z) z:=fun N w l h=>Dx h
theorem Uk:Can Nm 0:=by
 intro N w l h;obtain ⟨l1,l2,e,h1,l3,l4,e2,h3,h4⟩:=h;rw[show l4=[] from h4,show l3=_ from h3] at e2;rw[show l1=_ from h1,e2] at e;exact ⟨false,none,0,0,e,CInt.zero w⟩
theorem Bm {z:Int}{k:Nat}(h:Lim k z)(hk:k≤1048576):Num (ic z) z:=by
 intro N w l hl;obtain ⟨s,A,n,c,e,hc⟩:=Acx z N w l hl;exact ⟨s,A,n,c,e,hc.any,Nat.le_trans (hc.len h) hk⟩
theorem So {z:Int}{m:Nat}(hm:m≤1048576):Num (ia m z) z:=by
 intro N w l hl;obtain ⟨s,A,n,c,e,h,hn⟩:=Dx hl;exact ⟨s,A,n,c,e,h,Nat.le_trans hn hm⟩
theorem OY:Num Nm 0:=by
 intro N w l hl;obtain ⟨s,A,n,c,e,hc⟩:=Uk N w l hl;exact ⟨s,A,n,c,e,hc.any,Nat.le_trans (hc.len (k:=0) (by unfold Lim;decide)) (by decide)⟩
theorem Ox {N:Nat→Prop}{w:World}{x:List It}{vs:List Value}(h:all2 (CT.sem N w G0) [.ag x] vs) : ∃ l,vs=[.agg l.toArray]∧Bt N w G0 x l:=by
 obtain ⟨v,r,e,⟨l,e1,h1⟩,h2⟩:=h;rw[show r=[] from h2] at e;exact ⟨l,by rw[e,e1],h1⟩
theorem Uo {N:Nat→Prop}{w:World}{x y:List It}{vs:List Value}(h:all2 (CT.sem N w G0) [.ag x,.ag y] vs) : ∃ l m,vs=[.agg l.toArray,.agg m.toArray]∧Bt N w G0 x l∧Bt N w G0 y m:=by
 obtain ⟨v,r,e,⟨l,e1,h1⟩,h2⟩:=h;obtain ⟨m,e2,h3⟩:=Ox h2;exact ⟨l,m,by rw[e,e1,e2],h1,h3⟩
theorem Kg {N:Nat→Prop}{w:World}{u:Value}{vs:List Value}(h:all2 (CT.sem N w G0) [.one (.b (.lit u))] vs):vs=[u]:=by
 obtain ⟨v,r,e,h1,h2⟩:=h;have h1:[v]=[u]:=h1;injection h1 with h1;rw[show r=[] from h2] at e;rw[e,h1]
abbrev tic (z:Int):TV := .cv (.ag (ic z))
theorem E6 {N:Nat→Prop}{w w':World}{z:Int}{e:Ending}(h:RetInt w z e w') : ∃ v,e = .returned v∧(tic z).sem (Nx N w w') w' G0 v∧Below w.heap.size w w':=by
 obtain ⟨s,A,n,c,e1,h1,h2⟩:=h;exact ⟨_,e1,⟨[.bool s,.slice A n c],rfl,CD ⟨s,A,n,c,rfl,h1⟩⟩,h2⟩
theorem J4 {N:Nat→Prop}{w w':World}{u:Value}{e:Ending}(h:Gk w u e w') : ∃ v,e = .returned v∧(BF u).sem (Nx N w w') w' G0 v∧Below w.heap.size w w':=⟨u,h.1,(rfl:[u]=[u]),h.2⟩
theorem Sp.sub {P:Program}{I:WInv}{f:FuncId}{args args':List CT}{res:TV}(h:Sp P I f args res)(hs : ∀ N w vs,all2 (CT.sem N w G0) args' vs→all2 (CT.sem N w G0) args vs):Sp P I f args' res :=
 fun N w vs hI hl hv=>h N w vs hI hl (hs N w vs hv)
section
variable {I:WInv}{x y:List It}{a b:Int}
theorem sp1 {f:FuncId}{r:Int}(h : ∀ (w:World) (s:Bool) (A:Option Addr) (n c:Nat),AInt w s A n c a→n≤1048576→Calls Tryz.prog f #[.agg #[.bool s,.slice A n c]] w (RetInt w r))(hx:Num x a):Sp Tryz.prog I f [.ag x] (tic r):=by
 intro N w vs _ _ hv;obtain ⟨l,rfl,h1⟩:=Ox hv;obtain ⟨s,A,n,c,rfl,h2,h3⟩:=hx N w l h1;exact (h w s A n c h2 h3).mono fun e w' he=>E6 he
theorem AcE {f:FuncId}{u:Value}(h : ∀ (w:World) (s:Bool) (A:Option Addr) (n c:Nat),AInt w s A n c a→n≤1048576→Calls Tryz.prog f #[.agg #[.bool s,.slice A n c]] w (Gk w u))(hx:Num x a):Sp Tryz.prog I f [.ag x] (BF u):=by
 intro N w vs _ _ hv;obtain ⟨l,rfl,h1⟩:=Ox hv;obtain ⟨s,A,n,c,rfl,h2,h3⟩:=hx N w l h1;exact (h w s A n c h2 h3).mono fun e w' he=>J4 he
theorem sp2 {f:FuncId}{r:Int}(h : ∀ (w:World) (s t:Bool) (A A':Option Addr) (n c n' c':Nat),AInt w s A n c a→AInt w t A' n' c' b→n≤1048576→n'≤1048576→Calls Tryz.prog f #[.agg #[.bool s,.slice A n c],.agg #[.bool t,.slice A' n' c']] w (RetInt w r))(hx:Num x a)(hy:Num y b):Sp Tryz.prog I f [.ag x,.ag y] (tic r):=by
 intro N w vs _ _ hv;obtain ⟨l,m,rfl,h1,h1'⟩:=Uo hv;obtain ⟨s,A,n,c,rfl,h2,h3⟩:=hx N w l h1;obtain ⟨s',A',n',c',rfl,h2',h3'⟩:=hy N w m h1';exact (h w s s' A A' n c n' c' h2 h2' h3 h3').mono fun e w' he=>E6 he
abbrev tdm (q r code:Int):TV := .tu [.ag (ic q),.ag (ic r),.i code]
theorem Adp {f:FuncId}(h : ∀ (w:World) (s t:Bool) (A A':Option Addr) (n c n' c':Nat),AInt w s A n c a→AInt w t A' n' c' b→n≤1048576→n'≤1048576→Calls Tryz.prog f #[.agg #[.bool s,.slice A n c],.agg #[.bool t,.slice A' n' c']] w (Abi w a b))(hx:Num x a)(hy:Num y b)(hb:b≠0):Sp Tryz.prog I f [.ag x,.ag y] (tdm (a.fdiv b) (a.fmod b) 0):=by
 intro N w vs _ _ hv;obtain ⟨l,m,rfl,h1,h1'⟩:=Uo hv;obtain ⟨s,A,n,c,rfl,h2,h3⟩:=hx N w l h1;obtain ⟨s',A',n',c',rfl,h2',h3'⟩:=hy N w m h1';refine (h w s s' A A' n c n' c' h2 h2' h3 h3').mono fun e w' he => ?_
 obtain ⟨s1,A1,n1,c1,s2,A2,n2,c2,code,e1,k1,k2,k3,k4⟩:=he;rw[if_neg hb] at k2 k3;exact ⟨_,e1,⟨_,rfl,_,_,rfl,⟨_,rfl,CD ⟨s1,A1,n1,c1,rfl,k1⟩⟩,_,_,rfl,⟨_,rfl,CD ⟨s2,A2,n2,c2,rfl,k2⟩⟩,_,_,rfl,by rw[k3];exact (rfl:[_]=[_]),rfl⟩,k4⟩
theorem PK (hx:Num x a)(hy:Num y b):Sp Tryz.prog I 145 [.ag x,.ag y] (tic (a+b)):=sp2 (fun w s t A A' n c n' c' h1 h2 h3 h4=>AaD w h1 h2 (by omega) (by omega)) hx hy
theorem X0 (hx:Num x a)(hy:Num y b):Sp Tryz.prog I 146 [.ag x,.ag y] (tic (a*b)):=sp2 (fun w s t A A' n c n' c' h1 h2 h3 h4=>ZL w h1 h2 (by omega) (by omega)) hx hy
theorem FU (hx:Num x a):Sp Tryz.prog I 127 [.ag x] (tic (-a)):=sp1 (fun w s A n c h1 h2=>Ss w h1 (by omega)) hx
theorem Pu (hx:Num x a)(hy:Num y b):Sp Tryz.prog I 129 [.ag x,.ag y] (tic (Nat.gcd a.natAbs b.natAbs:Nat)):=sp2 (fun w s t A A' n c n' c' h1 h2 h3 h4=>ZY w h1 h2 (by omega) (by omega)) hx hy
theorem BL (k:Int)(hx:Num x a)(hk:a.sign=k):Sp Tryz.prog I 102 [.ag x] (BF (.int .i64 k)):=AcE (fun w s A n c h1 h2=>by subst hk;exact Wv w h1) hx
theorem JT (hx:Num x a)(hy:Num y b)(hb:b≠0):Sp Tryz.prog I 130 [.ag x,.ag y] (tdm (a.fdiv b) (a.fmod b) 0):=Adp (fun w s t A A' n c n' c' h1 h2 h3 h4=>SL w h1 h2 (by omega) (by omega)) hx hy hb
theorem GA (k:Int)(h1 : -9223372036854775808≤k)(h2:k≤9223372036854775807):Sp Tryz.prog I 99 [.i k] (tic k):=by
 intro N w vs _ _ hv;rw[Kg hv];exact (Nn k w h1 h2).mono fun e w' he=>E6 he
theorem J1 (hx:Num x a):Sp Tryz.prog I 147 [.ag x] (tic (-a)):=sp1 (fun w s A n c h1 h2=>Ni w h1 (by omega)) hx
theorem Eo (hx:Num x a):Sp Tryz.prog I 150 [.ag x] (tic a):=sp1 (fun w s A n c h1 h2=>DF w h1 (by omega)) hx
theorem T3 (hx:Num x a)(hy:Num y b):Sp Tryz.prog I 148 [.ag x,.ag y] (tic (Nat.gcd a.natAbs b.natAbs:Nat)):=sp2 (fun w s t A A' n c n' c' h1 h2 h3 h4=>Sd w h1 h2 (by omega) (by omega)) hx hy
theorem C9 (k:Int)(hx:Num x a)(hk:a.sign=k):Sp Tryz.prog I 94 [.ag x] (BF (.int .i64 k)):=AcE (fun w s A n c h1 h2=>by subst hk;exact Qu w h1 (by omega)) hx
theorem FO (k:Int)(h1 : -9223372036854775808≤k)(h2:k≤9223372036854775807):Sp Tryz.prog I 113 [.i k] (tic k):=by
 intro N w vs _ _ hv;rw[Kg hv];exact (Kx k w h1 h2).mono fun e w' he=>E6 he
theorem Zx (k:Bool)(hx:Can x a)(hy:Can y b)(hk:decide (a=b)=k):Sp Tryz.prog I 107 [.ag x,.ag y] (BF (.bool k)):=by
 intro N w vs _ _ hv;obtain ⟨l,m,rfl,h1,h1'⟩:=Uo hv;obtain ⟨s,A,n,c,rfl,h2⟩:=hx N w l h1;obtain ⟨s',A',n',c',rfl,h2'⟩:=hy N w m h1';subst hk;exact (Ql w h2 h2').mono fun e w' he=>J4 he
end
abbrev po {P:Program}{I:WInv}{nt:Nat}{f:FuncId}{args:List CT}{res:TV}(h:Sp P I f args res):PO P I nt:=⟨.sp f args res,h⟩
abbrev pon {P:Program}{I:WInv}{nt:Nat}{f:FuncId}{args:List CT}{rest:Option (List CT)}{e:Ent}(h:SpN P I f args rest e):PO P I nt:=⟨.spn f args rest e,h⟩
abbrev pk {P:Program}{I:WInv}{nt:Nat}{k:OpK}{ts:List TV}{res:TV}(h:Be P k ts res):PO P I nt:=⟨.op k ts res,h⟩
section
variable {P:Program}
theorem By {k:OpK}{vs:List Value}{v:Value}(h : ∀ w,(k.run vs).run P w = .ok v w):Be P k (vs.map BF) (BF v):=by
 intro N w g us hu;have e:us=vs:=by
  have : ∀ (vs us:List Value),Lp (TV.sem N w g) (vs.map BF) us→us=vs:=by
   intro vs;induction vs with
   | nil=>intro us h;exact h
   | cons v vs ih =>
    rintro us ⟨u,l,e,h1,h2⟩;have h1:[u]=[v]:=h1;injection h1 with h1;rw[e,h1,ih l h2]
  exact this vs us hu
 subst e;exact ⟨v,w,h w,Below.refl _ _,(rfl:[v]=[v])⟩
abbrev li (z:Int):TV:=BF (.int .i64 z)
abbrev lb (b:Bool):TV:=BF (.bool b)
abbrev ci (z:Int):CT := .i z
abbrev cb (b:Bool):CT := .one (.o b)
abbrev R64 (z:Int):Prop := -9223372036854775808≤z∧z≤9223372036854775807
theorem Az (t:TypeId)(x y:Int)(h:R64 (x+y)):Be P (.bin .add t) [li x,li y] (li (x+y)):=By (vs:=[.int .i64 x,.int .i64 y]) fun w=>by simp[OpK.run,eqGuard,binOp,Op.intArith,IntWalk.i64_in _ h]
theorem Ov (t:TypeId)(x y:Int)(h:R64 (x - y)):Be P (.bin .sub t) [li x,li y] (li (x - y)):=By (vs:=[.int .i64 x,.int .i64 y]) fun w=>by simp[OpK.run,eqGuard,binOp,Op.intArith,IntWalk.i64_in _ h]
theorem Adg (t:TypeId)(x y:Int)(h:R64 (x*y)):Be P (.bin .mul t) [li x,li y] (li (x*y)):=By (vs:=[.int .i64 x,.int .i64 y]) fun w=>by simp[OpK.run,eqGuard,binOp,Op.intArith,IntWalk.i64_in _ h]
theorem MV (t:TypeId)(x y:Int)(hy:y≠0)(h:R64 (x.tdiv y)):Be P (.bin .quo t) [li x,li y] (li (x.tdiv y)):=By (vs:=[.int .i64 x,.int .i64 y]) fun w=>by simp[OpK.run,eqGuard,binOp,Op.intDiv,hy,IntWalk.i64_in _ h]
theorem DX (t:TypeId)(x y:Int)(hy:y≠0):Be P (.bin .rem t) [li x,li y] (li (x.tmod y)):=By (vs:=[.int .i64 x,.int .i64 y]) fun w=>by simp[OpK.run,eqGuard,binOp,Op.intDiv,hy]
theorem EQ (t:TypeId)(x y:Int)(b:Bool)(h:decide (x < y)=b):Be P (.bin .lss t) [li x,li y] (lb b):=By (vs:=[.int .i64 x,.int .i64 y]) fun w=>by subst h;simp[OpK.run,eqGuard,binOp,Op.intCmp]
theorem Abg (t:TypeId)(x y:Int)(b:Bool)(h:decide (x≤y)=b):Be P (.bin .leq t) [li x,li y] (lb b):=By (vs:=[.int .i64 x,.int .i64 y]) fun w=>by subst h;simp[OpK.run,eqGuard,binOp,Op.intCmp]
theorem MW (t:TypeId)(x y:Int)(b:Bool)(h:decide (y < x)=b):Be P (.bin .gtr t) [li x,li y] (lb b):=By (vs:=[.int .i64 x,.int .i64 y]) fun w=>by subst h;simp[OpK.run,eqGuard,binOp,Op.intCmp]
theorem Un (t:TypeId)(x y:Int)(b:Bool)(h:decide (y≤x)=b):Be P (.bin .geq t) [li x,li y] (lb b):=By (vs:=[.int .i64 x,.int .i64 y]) fun w=>by subst h;simp[OpK.run,eqGuard,binOp,Op.intCmp]
theorem Ba (t:TypeId)(x y:Int)(b:Bool)(h:decide (x=y)=b):Be P (.bin .eql t) [li x,li y] (lb b):=By (vs:=[.int .i64 x,.int .i64 y]) fun w=>by subst h;simp[OpK.run,eqGuard,binOp,Op.intCmp];rfl
theorem Ow (t:TypeId)(x y:Int)(b:Bool)(h:decide (x=y) = !b):Be P (.bin .neq t) [li x,li y] (lb b):=By (vs:=[.int .i64 x,.int .i64 y]) fun w=>by
 have:(x != y)=b:=by
  have h2:(x == y) = !b:=by rw[←h];rfl
  rw[bne,h2];simp
 simp[OpK.run,eqGuard,binOp,Op.intCmp,this]
theorem As (t:TypeId)(x y:Int)(h:x < y:=by omega):Be P (.bin .lss t) [li x,li y] (lb true):=EQ t x y true (decide_eq_true h)
theorem Aj (t:TypeId)(x y:Int)(h : ¬ x < y:=by omega):Be P (.bin .lss t) [li x,li y] (lb false):=EQ t x y false (decide_eq_false h)
theorem Fn (t:TypeId)(x y:Int)(h:x≤y:=by omega):Be P (.bin .leq t) [li x,li y] (lb true):=Abg t x y true (decide_eq_true h)
theorem GK (t:TypeId)(x y:Int)(h : ¬ x≤y:=by omega):Be P (.bin .leq t) [li x,li y] (lb false):=Abg t x y false (decide_eq_false h)
theorem BN (t:TypeId)(x y:Int)(h:y < x:=by omega):Be P (.bin .gtr t) [li x,li y] (lb true):=MW t x y true (decide_eq_true h)
theorem Ao (t:TypeId)(x y:Int)(h : ¬ y < x:=by omega):Be P (.bin .gtr t) [li x,li y] (lb false):=MW t x y false (decide_eq_false h)
theorem B0 (t:TypeId)(x y:Int)(h:y≤x:=by omega):Be P (.bin .geq t) [li x,li y] (lb true):=Un t x y true (decide_eq_true h)
theorem Cu (t:TypeId)(x y:Int)(h : ¬ y≤x:=by omega):Be P (.bin .geq t) [li x,li y] (lb false):=Un t x y false (decide_eq_false h)
theorem Ak (t:TypeId)(x y:Int)(h:x=y:=by omega):Be P (.bin .eql t) [li x,li y] (lb true):=Ba t x y true (decide_eq_true h)
theorem Af (t:TypeId)(x y:Int)(h : ¬ x=y:=by omega):Be P (.bin .eql t) [li x,li y] (lb false):=Ba t x y false (decide_eq_false h)
theorem AR (t:TypeId)(x y:Int)(h : ¬ x=y:=by omega):Be P (.bin .neq t) [li x,li y] (lb true):=Ow t x y true (decide_eq_false h)
theorem At (t:TypeId)(x y:Int)(h:x=y:=by omega):Be P (.bin .neq t) [li x,li y] (lb false):=Ow t x y false (decide_eq_true h)
theorem Tf (x:Int)(h:R64 (-x)):Be P (.un .neg) [li x] (li (-x)):=By (vs:=[.int .i64 x]) fun w=>by
 have:IntKind.i64.wrap (0 - x) = -x:=by rw[Int.zero_sub];exact IntWalk.i64_in _ h
 simp only[OpK.run,Op.unary,Op.intArith,this]
 rfl
variable {I:WInv}{f:FuncId}
theorem Sp.res {args:List CT}{res res':TV}(h:Sp P I f args res)(hs : ∀ N w v,res.sem N w G0 v→res'.sem N w G0 v):Sp P I f args res' :=
 fun N w vs hI hl hv=>(h N w vs hI hl hv).mono fun e w' ⟨v,h1,h2,h3⟩=>⟨v,h1,hs _ _ _ h2,h3⟩
def DS (ds:List Nat):Item where
 n:=1
 T:=fun _ w l => ∃ A c,l=[.slice A ds.length c]∧Rd .u32 w w.heap.size A ds.length ds∧ds.length≤c∧c≤9223372036854775807
 step:=fun hw _ ⟨A,c,e,h,hc⟩=>⟨A,c,e,OQ hw h,hc⟩
 len:=fun ⟨A,c,e,h⟩=>by rw[e];rfl
 one:=fun ⟨A,c,e,h⟩=>by rw[e];intro v hv;simp at hv;subst hv;rfl
theorem He {N:Nat→Prop}{w:World}{g:Gh}{t:TV}{vs:List Value}(h:Lp (TV.sem N w g) [t] vs) : ∃ v,vs=[v]∧t.sem N w g v:=by
 obtain ⟨v,l,e,h1,h2⟩:=h;rw[show l=[] from h2] at e;exact ⟨v,e,h1⟩
theorem Ev {N:Nat→Prop}{w:World}{g:Gh}{t u:TV}{vs:List Value}(h:Lp (TV.sem N w g) [t,u] vs) : ∃ v x,vs=[v,x]∧t.sem N w g v∧u.sem N w g x:=by
 obtain ⟨v,l,e,h1,h2⟩:=h;obtain ⟨x,e2,h3⟩:=He h2;exact ⟨v,x,by rw[e,e2],h1,h3⟩
abbrev tit (i:Item):TV := .t i
theorem GC (t e ty:TypeId)(ds:List Nat)(ht:P.underlying t=some (.slice e)):Be P (.len #[t] ty) [tit (DS ds)] (li ds.length):=by
 intro N w g vs hv;obtain ⟨v,rfl,A,c,e1,h⟩:=He hv;injection e1 with e1;subst e1;exact ⟨_,w,by simp[OpK.run,Builtin.len_,AL ht,goInt],Below.refl _ _,(rfl:[_]=[_])⟩
end
def pn (n d:Int):Int:=if d=0 then 0 else if d < 0 then -n else n
def pd (d:Int):Int:=if d=0 then 1 else if d < 0 then -d else d
theorem OT (d:Int):0 < pd d:=by unfold pd;split <;> (try split) <;> omega
theorem AaT (n d:Int):Rat.divInt (pn n d) (pd d)=Rat.divInt n d:=by
 unfold pn pd;split
 ·rename_i h;subst h;rw[Rat.divInt_zero,Rat.zero_divInt]
 ·split
  ·exact OS n d
  ·rfl
section
variable {I:WInv}{n d n' d':Int}
abbrev fr (q1 q2:IntP):CT := .ag (ip q1++ip q2)
abbrev iy (z:Int):IntP:=aP 1048576 z
theorem H6 (z:Int):Num (ip (iy z)) z:=So (Nat.le_refl _)
theorem QV {x:List It}{z:Int}(h:Num x z){N:Nat→Prop}{w:World}{v:Value}(hv:(CT.ag x).sem N w G0 v):(CT.ag (ip (iy z))).sem N w G0 v:=by
 obtain ⟨vs,e,h1⟩:=hv;obtain ⟨s,A,n,c,e2,h2,h3⟩:=h N w vs h1;exact ⟨vs,e,CD ⟨s,A,n,c,e2,h2,h3⟩⟩
theorem Ku {f:FuncId}{args:List CT}{x y:List It}{a b:Int}(h:Sp Tryz.prog I f args (.tu [.ag x,.ag y]))(hx:Num x a)(hy:Num y b):Sp Tryz.prog I f args (.tu [.ag (ip (iy a)),.ag (ip (iy b))]) :=
 h.res fun N w v ⟨vs,e,u,l,e1,h1,u2,l2,e2,h2,h3⟩=>⟨vs,e,u,l,e1,QV hx h1,u2,l2,e2,QV hy h2,h3⟩
end
section
variable {I:WInv}{q1 q2:IntP}{n d:Int}
theorem Vg (h1:Num (ip q1) n)(h2:Num (ip q2) d)(hd:0 < d):Sp Tryz.prog I 89 [.ag (ip q1++ip q2)] (.tu [.ag (ip q1),.ag (ip q2)]) :=
 sr 23 [po (BL 1 h2 (Int.sign_eq_one_of_pos hd))]
theorem Vh (h1:Num (ip q1) n)(h2:Num (ip q2) d)(hd:d < 0):Sp Tryz.prog I 89 [.ag (ip q1++ip q2)] (.tu [.ag (ic (-n)),.ag (ic (-d))]) :=
 sr 23 [po (BL (-1) h2 (Int.sign_eq_neg_one_of_neg hd)),po (FU h1),po (FU h2)]
theorem Sj (h2:Num (ip q2) 0):Sp Tryz.prog I 89 [.ag (ip q1++ip q2)] (.tu [.ag Nm,.ag (ic 1)]) :=
 sr 23 [po (BL 0 h2 rfl),po (GA 1 (by omega) (by omega))]
end
abbrev frc (q:Rat):CT:=fr (cP q.num) (cP (q.den:Int))
abbrev tfr (q:Rat):TV := .cv (frc q)
theorem Wg (b a:Nat):(b:Int).tmod (a:Int)=((b % a:Nat):Int):=by
 rw[Int.tmod_eq_emod_of_nonneg (by omega),Int.natCast_emod]
def wst (x y a b:Int):St:=⟨[(0,li x),(1,li y),(4,.p 0 0),(5,li a),(6,li b)],[(0,some ⟨26,none,Nm++Nm⟩)],50⟩
section
variable {I:WInv}
theorem LK (x y:Int)(a0 b0:Nat):LoopTr Tryz.prog I 28 (Bj Tryz.prog 128 0) (wst x y a0 b0) (.exit 0) (wst x y 0 (Nat.gcd a0 b0:Nat)):=by
 refine TM (ι:=Nat×Nat) (by simp) (fun i=>wst x y i.1 i.2) (fun i=>i.1) (fun i=>Nat.gcd i.1 i.2=Nat.gcd a0 b0) (a0,b0) rfl ?_
 rintro ⟨a,b⟩ hg
 change Nat.gcd a b=Nat.gcd a0 b0 at hg
 by_cases ha:a=0
 ·subst ha
  right;rw[Nat.gcd_zero_left] at hg;rw[←hg];exact rr [pk (Ow 2 ((0:Nat):Int) 0 false rfl)]
 ·left
  refine ⟨(b % a,a),?_,Nat.mod_lt _ (by omega),?_⟩
  ·show Nat.gcd (b % a) a=Nat.gcd a0 b0
   rw[←Nat.gcd_rec,hg]
  ·have h:Rnd Tryz.prog I 28 (Bj Tryz.prog 128 0) (wst x y a b) .normal (wst x y ((b:Int).tmod (a:Int)) a) :=
    rr [pk (Ow 2 (a:Int) 0 true (decide_eq_false (by omega))),pk (DX 2 (b:Int) (a:Int) (by omega))]
   rw[Wg] at h;exact h
theorem Wh {n d:Int}(hd:0 < d):n.tdiv (Nat.gcd n.natAbs d.natAbs:Nat)=(Rat.divInt n d).num:=by
 rw[Dq hd,Int.fdiv_eq_ediv_of_nonneg _ (Int.natCast_nonneg _)];refine Int.tdiv_eq_ediv_of_dvd ?_;have:=Int.gcd_dvd_left (a:=n) (b:=d);exact this
theorem Wi {n d:Int}(hd:0 < d):d.tdiv (Nat.gcd n.natAbs d.natAbs:Nat)=((Rat.divInt n d).den:Int):=by
 rw[Dr hd,Int.fdiv_eq_ediv_of_nonneg _ (Int.natCast_nonneg _)];refine Int.tdiv_eq_ediv_of_dvd ?_;have:=Int.gcd_dvd_right (a:=n) (b:=d);exact this
theorem Tc (n d:Int)(h:R64 n)(h' : -9223372036854775808 < n):R64 (Rat.divInt n d).num:=by
 have:=Xw n d;constructor <;> omega
theorem Ys {n d:Int}(hd:0 < d)(h:R64 d):R64 ((Rat.divInt n d).den:Int):=by
 have:=Yt (n:=n) (d:=d) (by omega)
 constructor <;> omega
theorem Pv (x y:Int)(hx : -9223372036854775808 < x∧x≤9223372036854775807)(hy:0 < y∧y≤9223372036854775807):Sp Tryz.prog I 128 [ci x,ci y] (tfr (Rat.divInt x y)):=by
 have hg0:((Nat.gcd x.natAbs y.natAbs:Nat):Int)≠0:=KE (by omega)
 have e1:=Wh (n:=x) hy.1;have e2:=Wi (n:=x) hy.1;have r1:=Tc x y ⟨by omega,by omega⟩ hx.1
 have r2:=Ys (n:=x) hy.1 ⟨by omega,by omega⟩
 rw[←e1] at r1;rw[←e2] at r2;unfold tfr frc;rw[←e1,←e2];have hyn:y=((y.natAbs:Nat):Int):=by omega
 by_cases h0:x < 0
 ·have hl:=LK (I:=I) x y x.natAbs y.natAbs
  have ha:((x.natAbs:Nat):Int) = -x:=by omega
  rw[ha,←hyn] at hl;exact sr 28 [pk (EQ 2 x 0 true (decide_eq_true h0)),pk (Tf x ⟨by omega,by omega⟩),pl hl,pk (MV 2 x _ hg0 r1),po (GA _ r1.1 r1.2),pk (MV 2 y _ hg0 r2),po (GA _ r2.1 r2.2)]
 ·have hl:=LK (I:=I) x y x.natAbs y.natAbs
  have ha:((x.natAbs:Nat):Int)=x:=by omega
  rw[ha,←hyn] at hl;exact sr 28 [pk (EQ 2 x 0 false (decide_eq_false h0)),pl hl,pk (MV 2 x _ hg0 r1),po (GA _ r1.1 r1.2),pk (MV 2 y _ hg0 r2),po (GA _ r2.1 r2.2)]
variable {q1 q2:IntP}{n d:Int}
theorem Q6 (h1:Num (ip q1) n)(h2:Num (ip q2) d)(hk1:Lim 1048576 n)(hk2:Lim 1048576 d):Sp Tryz.prog I 89 [fr q1 q2] (.tu [.ag (ip (iy (pn n d))),.ag (ip (iy (pd d)))]):=by
 rcases Int.lt_trichotomy d 0 with hd | hd | hd
 ·have e1:pn n d = -n:=by unfold pn;rw[if_neg (by omega),if_pos hd]
  have e2:pd d = -d:=by unfold pd;rw[if_neg (by omega),if_pos hd]
  rw[e1,e2];exact Ku (Vh h1 h2 hd) (Bm hk1.neg (Nat.le_refl _)) (Bm hk2.neg (Nat.le_refl _))
 ·subst hd
  exact Ku (Sj h2) OY (Bm (Ee (by omega):Lim 1 1) (by omega))
 ·have e1:pn n d=n:=by unfold pn;rw[if_neg (by omega),if_neg (by omega)]
  have e2:pd d=d:=by unfold pd;rw[if_neg (by omega),if_neg (by omega)]
  rw[e1,e2];exact Ku (Vg h1 h2 hd) h1 h2
theorem LI {d:Int}:Rat.divInt 0 d=Rat.divInt 0 1:=by rw[Rat.zero_divInt,Rat.zero_divInt]
theorem Ux:Sp Tryz.prog I 128 [ci 0,ci 1] (tfr (Rat.divInt 0 1)):=Pv 0 1 ⟨by omega,by omega⟩ ⟨by omega,by omega⟩
theorem En (h1:Num (ip q1) n)(h2:Num (ip q2) d)(hk1:Lim 1048576 n)(hk2:Lim 1048576 d)(hd:d≠0):Sp Tryz.prog I 90 [.ag (ip q1),.ag (ip q2)] (tfr (Rat.divInt n d)):=by
 by_cases hn:n=0
 ·subst hn
  rw[LI];exact sr 43 [po (BL 0 h1 rfl),po Ux]
 ·have hs : ∃ k,n.sign=k∧(k=1∨k = -1):=by
   rcases Int.lt_trichotomy n 0 with h | h | h
   ·exact ⟨-1,Int.sign_eq_neg_one_of_neg h,.inr rfl⟩
   ·exact absurd h hn
   ·exact ⟨1,Int.sign_eq_one_of_pos h,.inl rfl⟩
  obtain ⟨k,hk,hkv⟩:=hs;rcases Int.lt_trichotomy d 0 with hdd | hdd | hdd
  ·have m1:Num (ic (-n)) (-n):=Bm hk1.neg (Nat.le_refl _)
   have m2:Num (ic (-d)) (-d):=Bm hk2.neg (Nat.le_refl _);have hp:0 < -d:=by omega
   have hg:=KE (n := -n) (d := -d) (by omega)
   have gl:Lim 1048576 ((Nat.gcd (-n).natAbs (-d).natAbs:Nat):Int):=Fa hk2.neg (by omega)
   have mg:Num (ic ((Nat.gcd (-n).natAbs (-d).natAbs:Nat):Int)) _:=Bm gl (Nat.le_refl _);rw[←OS n d];unfold tfr frc;rw[Dq hp,Dr hp];rcases hkv with rfl | rfl
   ·exact sr 43 [po (BL 1 h1 hk),po (BL (-1) h2 (Int.sign_eq_neg_one_of_neg hdd)),po (FU h1),po (FU h2),po (Pu m1 m2),po (JT m1 mg hg),po (JT m2 mg hg)]
   ·exact sr 43 [po (BL (-1) h1 hk),po (BL (-1) h2 (Int.sign_eq_neg_one_of_neg hdd)),po (FU h1),po (FU h2),po (Pu m1 m2),po (JT m1 mg hg),po (JT m2 mg hg)]
  ·exact absurd hdd hd
  ·have hg:=KE (n:=n) (d:=d) (by omega)
   have gl:Lim 1048576 ((Nat.gcd n.natAbs d.natAbs:Nat):Int):=Fa hk2 (by omega)
   have mg:Num (ic ((Nat.gcd n.natAbs d.natAbs:Nat):Int)) _:=Bm gl (Nat.le_refl _);unfold tfr frc;rw[Dq hdd,Dr hdd];rcases hkv with rfl | rfl
   ·exact sr 43 [po (BL 1 h1 hk),po (BL 1 h2 (Int.sign_eq_one_of_pos hdd)),po (Pu h1 h2),po (JT h1 mg hg),po (JT h2 mg hg)]
   ·exact sr 43 [po (BL (-1) h1 hk),po (BL 1 h2 (Int.sign_eq_one_of_pos hdd)),po (Pu h1 h2),po (JT h1 mg hg),po (JT h2 mg hg)]
end
theorem Xp {k:Nat}{n:Int}(h:Lim k n)(d:Int):Lim k (pn n d):=by
 unfold pn;split
 ·exact F5 k
 ·split
  ·exact h.neg
  ·exact h
theorem AbG {k:Nat}{d:Int}(h:Lim k d)(hk:0 < k):Lim k (pd d):=by
 unfold pd;split
 ·exact Ee hk
 ·split
  ·exact h.neg
  ·exact h
theorem AcR (d:Int):pd d≠0:=by have:=OT d;omega
theorem T7 {a b c d:Int}(hb:b≠0)(hd:d≠0):Rat.divInt (a*d+c*b) (b*d)=Rat.divInt a b+Rat.divInt c d:=(Rat.divInt_add_divInt a c hb hd).symm
theorem T5 (a b c d:Int):Rat.divInt (a*c) (b*d)=Rat.divInt a b*Rat.divInt c d:=(Rat.divInt_mul_divInt a c).symm
theorem T6 (a b c d:Int):Rat.divInt (a*d) (b*c)=Rat.divInt a b / Rat.divInt c d:=by
 rw[Rat.div_def,Rat.inv_divInt,Rat.divInt_mul_divInt]
def FF (a b:Rat):Int:=if a < b then -1 else if a=b then 0 else 1
structure Fk (q1 q2:IntP) (n d:Int) (k:Nat):Prop where
 a:Num (ip q1) n
 b:Num (ip q2) d
 ln:Lim k n
 ld:Lim k d
 k0:0 < k
 k1:k≤262144
theorem Fk.big {q1 q2:IntP}{n d:Int}{k:Nat}(h:Fk q1 q2 n d k):Lim 1048576 n∧Lim 1048576 d:=⟨h.ln.mono (by have:=h.k1;omega),h.ld.mono (by have:=h.k1;omega)⟩
section
variable {I:WInv}{q1 q2 q3 q4:IntP}{n d n' d':Int}{k k':Nat}
theorem ny {z:Int}{j:Nat}(h:Lim j z)(hj:j≤1048576):Num (ic z) z:=Bm h hj
theorem Zw (n d:Int):R64 (n.sign*d.sign):=by
 rcases Int.lt_trichotomy n 0 with h | h | h <;> rcases Int.lt_trichotomy d 0 with h' | h' | h' <;>
  simp[h,h',Int.sign_eq_one_of_pos,Int.sign_eq_neg_one_of_neg] <;> exact ⟨by omega,by omega⟩
theorem Wu (n d:Int):n.sign*d.sign=(Rat.divInt n d).num.sign:=by
 rw[Rat.num_divInt];by_cases hd:d=0
 ·subst hd;simp
 ·have hg:((d.gcd n:Nat):Int) ∣ d.sign*n:=Int.dvd_trans (Int.gcd_dvd_right ..) (Int.dvd_mul_left _ _)
  have hp:0 < ((d.gcd n:Nat):Int):=by
   have:0 < d.gcd n:=Int.gcd_pos_of_ne_zero_left n hd;omega
  obtain ⟨c,hc⟩:=hg;have h1:(d.sign*n).sign=n.sign*d.sign:=by
   rw[Int.sign_mul,Int.sign_sign,Int.mul_comm]
  rw[hc,Int.mul_ediv_cancel_left _ (by omega),←h1,hc,Int.sign_mul,Int.sign_eq_one_of_pos hp,Int.one_mul]
theorem Wt (c:Int)(h1:Fk q1 q2 n d k)(hc:(Rat.divInt n d).num.sign=c):Sp Tryz.prog I 86 [fr q1 q2] (li c):=by
 subst hc;rw[←Wu];exact sr 10 [po (BL n.sign h1.a rfl),po (BL d.sign h1.b rfl),pk (Adg 3 n.sign d.sign (Zw n d))]
end
def slI (sz:Nat)(rows:List (List It0)):Item where
 n:=1
 T:=fun N w l => ∃ A c,l=[.slice A rows.length c]∧rows.length≤c∧c≤maxLen∧(rows≠[] → ∃ b off,A=some ⟨b,off,none⟩ ∧ ∀ i r,rows[i]? = some r→RowAt N w b (off+i*sz) r)
 step:=fun hw hN ⟨A,c,e,h1,h2,h3⟩=>⟨A,c,e,h1,h2,fun hr=>let ⟨b,off,hA,h⟩:=h3 hr;⟨b,off,hA,fun i r hi=>(h i r hi).step hw hN⟩⟩
 len:=fun ⟨A,c,e,_⟩=>by rw[e];rfl
 one:=fun ⟨A,c,e,_⟩=>by rw[e];intro v hv;simp at hv;subst hv;rfl
def BU (l:List It0):Nat:=(l.map It0.n).sum
theorem LM (l:List It0):Cb (l.map It.b)=BU l:=by simp only[Cb,BU,List.map_map];rfl
theorem KT {N:Nat→Prop}{w:World} : ∀ {xs ys:List It0} {l:List Value},Dp N w (xs++ys) l → ∃ l1 l2,l=l1++l2∧Dp N w xs l1∧Dp N w ys l2
 | [],_,l,h=>⟨[],l,rfl,rfl,h⟩
 | x::xs,_,l,⟨a,b,e,h1,h2⟩=>by
  obtain ⟨c,d,e2,h3,h4⟩:=KT h2;exact ⟨a++c,d,by rw[e,e2,List.append_assoc],⟨a,c,rfl,h1,h3⟩,h4⟩
theorem Fv {N:Nat→Prop}{w:World}{xs:List It0}{l:List Value}(h:Dp N w xs l):l.length=BU xs:=by
 have:=Fu (g:=G0) (Di h);rw[this,LM]
theorem L1 {N:Nat→Prop}{w:World}{sz:Nat} : ∀ {rows:List (List It0)} {vs:List Value},(∀ r∈rows,BU r=sz)→Dp N w rows.flatten vs→vs.length=rows.length*sz ∧ ∀ i r,rows[i]? = some r→Dp N w r ((vs.drop (i*sz)).take sz)
 | [],vs,_,h=>by rw[show vs=[] from h];exact ⟨by simp,fun i r hi=>by simp at hi⟩
 | q::rows,vs,hw,h=>by
  obtain ⟨l1,l2,e,h1,h2⟩:=KT (xs:=q) (ys:=rows.flatten) h;have hl:=Fv h1;rw[hw q (by simp)] at hl
  obtain ⟨k1,k2⟩:=L1 (fun r hr=>hw r (by simp[hr])) h2
  refine ⟨by rw[e,List.length_append,hl,k1,List.length_cons,Nat.add_mul];omega,fun i r hi => ?_⟩
  cases i with
  | zero =>
   simp at hi;subst hi;rw[e,Nat.zero_mul,List.drop_zero,List.take_append_of_le_length (by omega),List.take_of_length_le (by omega)]
   exact h1
  | succ i =>
   simp at hi;have:=k2 i r hi;have e2:(vs.drop ((i+1)*sz))=l2.drop (i*sz):=by
    rw[e,Nat.add_mul,Nat.one_mul,Nat.add_comm,←List.drop_drop,←hl,List.drop_left]
   rw[e2];exact this
section
variable {P:Program}{I:WInv}
theorem Aby (t e ty:TypeId)(sz:Nat)(rows:List (List It0))(ht:P.underlying t=some (.slice e)):Be P (.len #[t] ty) [tit (slI sz rows)] (li rows.length):=by
 intro N w g vs hv;obtain ⟨v,rfl,A,c,e1,h⟩:=He hv;injection e1 with e1;subst e1;exact ⟨_,w,by simp[OpK.run,Builtin.len_,AL ht,goInt],Below.refl _ _,(rfl:[_]=[_])⟩
theorem Abz (t e:TypeId)(sz:Nat)(rows:List (List It0))(i:Nat)(z:Int)(r:List It0)(ht:P.underlying t=some (.slice e))(hs:Cd P e=some sz)(hz:z=(i:Int))(hr:rows[i]? = some r):Be P (.idxA t) [tit (slI sz rows),li z] (.cv (.one (.fp r))):=by
 intro N w g vs hv;obtain ⟨v,x,rfl,⟨A,c,e1,hc1,hc2,h⟩,h2⟩:=Ev hv;injection e1 with e1;subst e1 hz;have h2:[x]=[.int .i64 (i:Int)]:=h2;injection h2 with h2;subst h2;have hlt:i < rows.length:=(List.getElem?_eq_some_iff.1 hr).1;obtain ⟨b,off,hA,hrow⟩:=h (by intro h0;rw[h0] at hlt;simp at hlt)
 subst hA;refine ⟨.pointer (some ⟨b,off+i*sz,none⟩),w,?_,Below.refl _ _,⟨b,off+i*sz,rfl,(hrow i r hr).step (WStep.refl _ _) (fun _ h => .inl h)⟩⟩
 simp[OpK.run,Instr.indexAt,asIntOf,AL ht,C0 hs,D3,hlt]
theorem Ah (t e:TypeId)(sz:Nat)(rows:List (List It0))(i:Nat)(z:Int)(r:List It0)(hr:rows[i]? = some r)(hz:z=(i:Int):=by omega)(ht:P.underlying t=some (.slice e):=by kernel_rfl)(hs:Cd P e=some sz:=by kernel_rfl):Be P (.idxA t) [tit (slI sz rows),li z] (.cv (.one (.fp r))):=Abz t e sz rows i z r ht hs hz hr
theorem Adf {t e:TypeId}{len size bytes:Nat}{ix:List Nat}{z:List Value}{cts:List CT}{m:List It}{rows:List (List It0)}(he:Og P t=some (e,size,bytes,z))(hle:len*size≤16777216)(hf:Gm (fun i=>some (i*size,size)) (rep len (DV z)) (ix.zip cts)=some m)(hm:m=rows.flatten.map It.b)(hn:rows.length=len)(hw : ∀ r∈rows,BU r=size) :
  Be P (.bs t len ix) (cts.map .cv) (tit (slI size rows)):=by
 intro N w g vs hv;obtain ⟨i,zv,q1,q2,q3,q4,q5,q6,q7,q8,q9⟩:=JR he;subst q4 q6;have hps : ∀ (ix:List Nat) (cts:List CT) (vs:List Value),Lp (TV.sem N w g) (cts.map .cv) vs→YX (CT.sem N w g) (ix.zip cts) (ix.zip vs):=by
  intro ix;induction ix with
  | nil=>intro cts vs _;exact (rfl:[]=[])
  | cons j ix ih =>
   intro cts vs h;cases cts with
   | nil=>have:vs=[]:=h;subst this;exact (rfl:[]=[])
   | cons c cts =>
    obtain ⟨v,l,rfl,h1,h2⟩:=h;exact ⟨v,ix.zip l,rfl,h1,ih cts l h2⟩
 have hmade:(madeCells zv.cells (len*i.size)).toList=(List.replicate len zv.cells.toList).flatten:=by rw[←q7];exact CR _ (by omega) len
 obtain ⟨cs',r1,r2,r3,r4⟩:=ME (ix.zip cts) _ m (ix.zip vs) (madeCells zv.cells (len*i.size)) hf (by rw[hmade];exact J0 len) (hps ix cts vs hv) (by rw[hmade];exact Pj q9 len)
 have hrun:=Gw (P:=P) (w:=w) (ps:=(ix.zip vs).toArray) q1 q2 q3 q7 hle (by simpa using r1)
 have hb:Below w.heap.size w (w.alloc (.cells cs' e)):=(Below.refl _ _).alloc (Nat.le_refl _) _;refine ⟨_,_,hrun,hb,⟨some ⟨w.heap.size,0,none⟩,len,by rw[hn],by omega,?_,fun _=>⟨w.heap.size,0,rfl,fun j r hj => ?_⟩⟩⟩
 ·have:len*1≤len*i.size:=Nat.mul_le_mul_left _ q8
  simp only[maxLen];omega
 ·rw[hm] at r2
  have hs0:=E0 r2;obtain ⟨k1,k2⟩:=L1 hw hs0;have k3:=k2 j r hj;have hlen:=Fv k3;rw[hw r (List.mem_of_getElem? hj)] at hlen;refine ⟨cs',e,(0,0),_,.inr ⟨Nat.le_refl _,by simp⟩,MZ _ _,?_,E4 (WStep.of_below hb) (fun _ h => .inl h) k3⟩
  rw[Nat.zero_add,hlen]
variable {nt:Nat}
theorem BZ {t:Nat}{v:TV}{E:Env}{s:Nat}:look ((t,v)::E) s=if t=s then some v else look E s:=by
 simp only[look];by_cases h:t=s
 ·subst h;simp
 ·have:Nat.beq t s=false:=by cases hb:Nat.beq t s with
   | false=>rfl
   | true=>exact absurd (Nat.eq_of_beq_eq_true hb) h
  simp[h,this]
theorem Bk {t:Nat}{v:Option Ent}{B:Bxs}{s:Nat}:AB ((t,v)::B) s=if t=s then v else AB B s:=by
 simp only[AB];by_cases h:t=s
 ·subst h;simp
 ·have:Nat.beq t s=false:=by cases hb:Nat.beq t s with
   | false=>rfl
   | true=>exact absurd (Nat.eq_of_beq_eq_true hb) h
  simp[h,this]
theorem Vn {t:Nat}{E:Env}{B:Bxs}{nx:Nat}(T:TypeId)(s:Nat):Leads I nt ⟨(t,BF (.slice none 0 0))::E,B,nx⟩ ⟨(t,.s nx)::E,(nx,some ⟨T,some (s,0),[]⟩)::B,nx+1⟩:=by
 rintro N0 w0 a w ⟨N,g,h1,h2⟩;have hfr:g nx=none:=h2 nx (Nat.le_refl _);have hx:=C7 (v := .sl none 0 0) hfr;refine ⟨N,upg g nx (.sl none 0 0),{ h1 with slots := ?_,boxes := ?_,inj := ?_,rig:=fun k v hv=>hx k v (h1.rig k v hv) },?_⟩
 ·intro q v hv
  rw[BZ] at hv;by_cases hq:t=q
  ·subst hq
   rw[if_pos rfl] at hv;injection hv with hv;subst hv;have:=h1.slots t _ (by rw[BZ,if_pos rfl])
   have this:[a.tmps.getD t undef]=[.slice none 0 0]:=this;injection this with this;exact ⟨none,0,0,Cp,by rw[this]⟩
  ·rw[if_neg hq] at hv
   exact TV.step (h1.slots q v (by rw[BZ,if_neg hq];exact hv)) (WStep.refl _ _) (fun _ h=>h) hx
 ·intro k e he
  rw[Bk] at he;by_cases hk:nx=k
  ·subst hk
   rw[if_pos rfl] at he;injection he with he;subst he;exact ⟨_,Cp,.inl ⟨s,0,rfl,rfl,rfl,rfl⟩⟩
  ·rw[if_neg hk] at he
   exact (h1.boxes k e he).keep (WStep.refl _ _) (fun _ h=>h) (fun b hb=>(h1.boxes k e he).notN hb) (fun b hb=>rfl) hx
 ·intro k j e e' b q1 q2 q3 q4
  rw[Bk] at q1 q2;by_cases hk:nx=k
  ·subst hk
   rw[DZ] at q3;cases q3
  ·by_cases hj:nx=j
   ·subst hj
    rw[DZ] at q4;cases q4
   ·rw[if_neg hk] at q1
    rw[if_neg hj] at q2;unfold AI at q3 q4;rw[CC (Ne.symm hk)] at q3;rw[CC (Ne.symm hj)] at q4;exact h1.inj k j e e' b q1 q2 q3 q4
 ·intro k hk
  change nx+1≤k at hk
  show upg g nx _ k=none;rw[CC (by omega:k≠nx)]
  exact h2 k (show nx≤k by omega)
theorem AH {t k : Nat} {E : Env} {B : Bxs} {nx T sz n : Nat} {its : List It} (rows : List (List It0)) (hits : its = rows.flatten.map It.b) (hn : n = rows.length) (hw : ∀ r ∈ rows, BU r = sz) (hk : AB B k = none) :
  Leads I nt ⟨(t,.s k)::E,(k,some ⟨T,some (sz,n),its⟩)::B,nx⟩ ⟨(t,tit (slI sz rows))::E,B,nx⟩:=by
 rintro N0 w0 a w ⟨N,g,h1,h2⟩;have hbox:=h1.boxes k ⟨T,some (sz,n),its⟩ (by rw[Bk,if_pos rfl])
 obtain ⟨A,c,xs,g1,g2,g3,g4⟩:=hbox.own rfl
 let N':Nat→Prop:=fun b=>N b∨A.map (·.block)=some b
 have hN : ∀ b,N b→N' b:=fun b hb => .inl hb
 have hkb:AI g k=A.map (·.block):=by unfold AI;rw[g1];cases A <;> rfl
 have hslot:=h1.slots t _ (by rw[BZ,if_pos rfl])
 obtain ⟨A',n',c',e1,e2⟩:=hslot;rw[g1] at e1;injection e1 with e1;injection e1 with e1 e3 e4;subst e1 e3 e4;injection e2 with e2;have hother : ∀ j e b,AB B j=some e→AI g j=some b→A.map (·.block)≠some b:=by
  intro j e b hj hb hc;have hjk:j≠k:=by intro h;rw[h,hk] at hj;cases hj
  have:=h1.inj j k e ⟨T,some (sz,n),its⟩ b (by rw[Bk,if_neg (Ne.symm hjk)];exact hj) (by rw[Bk,if_pos rfl]) hb (by rw[hkb];exact hc)
  exact hjk this
 have old : ∀ j e,AB B j=some e→AB ((k,some (⟨T,some (sz,n),its⟩:Ent))::B) j=some e:=by
  intro j e hj;have hjk:j≠k:=by intro h;rw[h,hk] at hj;cases hj
  rw[Bk,if_neg (Ne.symm hjk)];exact hj
 refine ⟨N',g,⟨?_,?_,?_,?_,?_,fun b hb => .inl (h1.sup b hb),h1.below,h1.tmps,h1.defers,I.step (WStep.refl _ _) hN h1.inv,h1.rig⟩,h2⟩
 ·intro q v hv
  rw[BZ] at hv;by_cases hq:t=q
  ·subst hq
   rw[if_pos rfl] at hv;injection hv with hv;subst hv;rw[e2];subst hits hn;rcases g2 with ⟨rfl,h0,rfl,rfl⟩ | ⟨b,cs,rfl,r2,r3,r4,r5,r6,r7⟩
   ·exact ⟨none,0,rfl,by omega,by simp[maxLen],fun hr=>absurd (List.eq_nil_of_length_eq_zero h0) hr⟩
   ·refine ⟨_,c,rfl,r3,r4,fun _=>⟨b,0,rfl,fun i r hi => ?_⟩⟩
    obtain ⟨k1,k2⟩:=L1 hw (E0 g3);have k3:=k2 i r hi;have hlen:=Fv k3;rw[hw r (List.mem_of_getElem? hi)] at hlen;refine ⟨cs,T,(0,0),_,.inr rfl,r2,?_,E4 (WStep.refl _ _) hN k3⟩;rw[Nat.zero_add,hlen,←r6];have hi':i < rows.length:=(List.getElem?_eq_some_iff.1 hi).1;have hm:i*sz+sz≤rows.length*sz:=by
     have:(i+1)*sz≤rows.length*sz:=Nat.mul_le_mul_right _ hi';rw[Nat.add_mul,Nat.one_mul] at this;exact this
    rw[List.drop_take,List.take_take,Nat.min_eq_left (by omega)]
  ·rw[if_neg hq] at hv
   exact TV.step (h1.slots q v (by rw[BZ,if_neg hq];exact hv)) (WStep.refl _ _) hN (GExt.refl _)
 ·intro j e he
  have hj:=h1.boxes j e (old j e he);refine hj.keep (WStep.refl _ _) hN ?_ (fun b hb=>rfl) (GExt.refl _)
  rintro b hb (hn' | hn')
  ·exact hj.notN hb hn'
  ·exact hother j e b he hb hn'
 ·intro i j e e' b q1 q2
  exact h1.inj i j e e' b (old i e q1) (old j e' q2)
 ·rintro b (hb | hb)
  ·exact h1.low b hb
  ·exact hbox.lt (by rw[hkb];exact hb)
 ·rintro b (hb | hb)
  ·exact h1.sub b hb
  ·exact .inr ⟨(g4 b hb).2.2,hbox.lt (by rw[hkb];exact hb)⟩
end
abbrev dsl (s:Bool)(ds:List Nat):List It:=[.o s,.b (.it (DS ds))]
abbrev dz (s:Bool)(z:Int):List It:=dsl s (Ae z.natAbs)
theorem Oh {N:Nat→Prop}{w:World}{s:Bool}{ds:List Nat}{l:List Value}(h:Bt N w G0 (dsl s ds) l) : ∃ A c,l=[.bool s,.slice A ds.length c]∧Rd .u32 w w.heap.size A ds.length ds∧ds.length≤c∧c≤9223372036854775807:=by
 obtain ⟨l1,l2,e,h1,h2⟩:=h;obtain ⟨A,c,e2,h3,h4,h5⟩:=Dx h2;exact ⟨A,c,by rw[e,show l1=_ from h1,e2];rfl,h3,h4,h5⟩
theorem TG {s:Bool}{ds:List Nat}(h:W32 ds)(hl:ds.length≤1048576):Num (dsl s ds) (sgn s (val ds)):=by
 intro N w l hl';obtain ⟨A,c,e,h1,h2,h3⟩:=Oh hl';exact ⟨s,A,ds.length,c,e,⟨ds,h1,h,h2,h3,rfl⟩,hl⟩
theorem Ab0 {s:Bool}{z:Int}(h:decide (z < 0)=s):sgn s z.natAbs=z:=by
 unfold sgn;by_cases hz:z < 0
 ·rw[decide_eq_true hz] at h;subst h;simp;omega
 ·rw[decide_eq_false hz] at h;subst h;simp;omega
theorem YK {s:Bool}{z:Int}(h:decide (z < 0)=s):Can (dz s z) z:=by
 intro N w l hl;obtain ⟨A,c,e,h1,h2,h3⟩:=Oh hl;exact ⟨s,A,_,c,e,h1,h.symm,h2,h3⟩
theorem Xx {s:Bool}{z:Int}{k:Nat}(h:decide (z < 0)=s)(hk:Lim k z)(hk2:k≤1048576):Num (dz s z) z:=by
 intro N w l hl;obtain ⟨s',A,n,c,e,hc⟩:=YK h N w l hl;exact ⟨s',A,n,c,e,hc.any,Nat.le_trans (hc.len hk) hk2⟩
theorem AaZ {s:Bool}{z:Int}(h:decide (z < 0)=s){N:Nat→Prop}{w:World}{v:Value}(hv:(CT.ag (ic z)).sem N w G0 v):(CT.ag (dz s z)).sem N w G0 v:=by
 obtain ⟨vs,e,h1⟩:=hv;obtain ⟨s',A,n,c,rfl,h2,h3,h4,h5⟩:=Dx h1;have e1:s'=s:=by rw[h3,h]
 have e2:n=(Ae z.natAbs).length:=h2.1.symm;subst e1 e2;exact ⟨_,e,[.bool s'],_,rfl,rfl,CD ⟨A,c,rfl,h2,h4,h5⟩⟩
theorem Adb {s:Bool}{z:Int}(h:decide (z < 0)=s){N:Nat→Prop}{w:World}{v:Value}(hv:(CT.ag (dz s z)).sem N w G0 v):(CT.ag (ic z)).sem N w G0 v:=by
 obtain ⟨vs,e,h1⟩:=hv;obtain ⟨s',A,n,c,rfl,h2⟩:=YK h N w vs h1;exact ⟨_,e,CD ⟨s',A,n,c,rfl,h2⟩⟩
section
variable {I:WInv}{f:FuncId}{res:TV}{n d a b:Int}{x y:List It}
theorem Gz (s:Bool)(hx:Num x n)(hs:decide (n < 0)=s):Sp Tryz.prog I 150 [.ag x] (.cv (.ag (dz s n))):=(Eo hx).res fun N w v h=>AaZ hs h
theorem Fw (s:Bool)(m:Nat)(hm:(Ae m).length≤1099511627776):Sp Tryz.prog I 153 [.one (.o s),.t (DS (Ae m))] (tic (sgn s m)):=by
 intro N w vs _ _ hv;obtain ⟨v,r,rfl,h1,v2,r2,rfl,h3,h4⟩:=hv;have h1:[v]=[.bool s]:=h1;injection h1 with h1;obtain rfl:r2=[]:=h4;obtain ⟨A,c,e3,q1,q2,q3⟩:=h3;injection e3 with e3;subst h1 e3;exact (QL s w q1 q2 q3 hm).mono fun e w' he=>E6 he
theorem Ub {N:Nat→Prop}{w:World}{s:Bool}{A:Option Addr}{n c:Nat}{ds:List Nat}(h1:Rd .u32 w w.heap.size A n ds)(h2:n≤c)(h3:c≤9223372036854775807):Bt N w G0 (dsl s ds) [.bool s,.slice A n c]:=by
 obtain rfl:=h1.len;exact ⟨[.bool s],_,rfl,rfl,CD ⟨A,c,rfl,h1,h2,h3⟩⟩
theorem Sp.n2 (h : ∀ s ds t es,W32 ds→W32 es→ds.length≤1048576→es.length≤1048576→a=sgn s (val ds)→b=sgn t (val es)→Sp Tryz.prog I f [.ag (dsl s ds),.ag (dsl t es)] res)(hx:Num x a)(hy:Num y b):Sp Tryz.prog I f [.ag x,.ag y] res:=by
 intro N w vs hI hl hv;obtain ⟨l,m,rfl,h1,h2⟩:=Uo hv;obtain ⟨s,A,k,c,rfl,⟨ds,r1,r2,r3,r4,r5⟩,hn⟩:=hx N w l h1;obtain ⟨t,A',k',c',rfl,⟨es,q1,q2,q3,q4,q5⟩,hn'⟩:=hy N w m h2;exact h s ds t es r2 q2 (by rw[r1.len];exact hn) (by rw[q1.len];exact hn') r5 q5 N w _ hI hl ⟨_,_,rfl,⟨_,rfl,Ub r1 r3 r4⟩,_,_,rfl,⟨_,rfl,Ub q1 q3 q4⟩,rfl⟩
theorem Sp.y2 (h:Sp Tryz.prog I f [.ag (ip (iy a)),.ag (ip (iy b))] res)(hx:Num x a)(hy:Num y b):Sp Tryz.prog I f [.ag x,.ag y] res :=
 h.sub fun N w vs ⟨v,l,e,h1,v2,l2,e2,h2,h3⟩=>⟨v,l,e,QV hx h1,v2,l2,e2,QV hy h2,h3⟩
theorem Mj {N:Nat→Prop}{w w':World}{m:Nat}{e:Ending}(h:RetMag w m e w') : ∃ v,e = .returned v∧(tit (DS (Ae m))).sem (Nx N w w') w' G0 v∧Below w.heap.size w w':=by
 obtain ⟨A,n,c,rfl,h1,h2,h3,h4⟩:=h;obtain rfl:=h1.len;exact ⟨_,rfl,⟨A,c,rfl,h1,h2,h3⟩,h4⟩
abbrev cds (ds:List Nat):CT := .t (DS ds)
theorem LH {N:Nat→Prop}{w:World}{ds es:List Nat}{vs:List Value}(hv:all2 (CT.sem N w G0) [cds ds,cds es] vs) : ∃ A c A' c',vs=[.slice A ds.length c,.slice A' es.length c']∧Rd .u32 w w.heap.size A ds.length ds∧ds.length≤c∧c≤9223372036854775807∧Rd .u32 w w.heap.size A' es.length es∧es.length≤c'∧c'≤9223372036854775807:=by
 obtain ⟨v,r,rfl,⟨A,c,e1,h1⟩,v2,r2,rfl,⟨A',c',e2,h2⟩,h4⟩:=hv;obtain rfl:r2=[]:=h4;injection e1 with e1;injection e2 with e2;subst e1 e2;exact ⟨A,c,A',c',rfl,h1.1,h1.2.1,h1.2.2,h2.1,h2.2.1,h2.2.2⟩
variable {ds es:List Nat}
theorem AbB (h1:W32 ds)(h2:W32 es)(l1:ds.length≤1048576)(l2:es.length≤1048576):Sp Tryz.prog I 216 [cds ds,cds es] (tit (DS (Ae (val ds+val es)))):=by
 intro N w vs _ _ hv;obtain ⟨A,c,A',c',rfl,q1,_,_,q2,_,_⟩:=LH hv;exact (Nv w q1 q2 h1 h2 (by omega) (by omega)).mono fun _ _=>Mj
theorem Ab7 (h1:W32 ds)(h2:W32 es)(l1:ds.length≤1048576)(l2:es.length≤1048576):Sp Tryz.prog I 154 [cds ds,cds es] (tit (DS (Ae (val ds*val es)))):=by
 intro N w vs _ _ hv;obtain ⟨A,c,A',c',rfl,q1,_,_,q2,_,_⟩:=LH hv;exact (Nl w q1 q2 h1 h2 (by omega) (by omega)).mono fun _ _=>Mj
theorem WG (h1:W32 ds)(l1:ds.length≤1048576){v:Nat}(hle:v≤val ds):Sp Tryz.prog I 214 [cds ds,cds (Ae v)] (tit (DS (Ae (val ds - v)))):=by
 intro N w vs _ _ hv;obtain ⟨A,c,A',c',rfl,q1,_,_,q2,_,_⟩:=LH hv;have:=Ng (c:=c) (c':=c') w q1 q2 h1 (Ai v) (by omega) (B6 (Nat.lt_of_le_of_lt hle (BP h1))) (by rw[An];exact hle)
 rw[An] at this;exact this.mono fun _ _=>Mj
theorem Sf (h1:W32 ds)(h2:W32 es):Sp Tryz.prog I 170 [cds ds,cds es] (li (BT (val ds) (val es))):=by
 intro N w vs _ _ hv;obtain ⟨A,c,A',c',rfl,q1,q2,q3,p1,p2,p3⟩:=LH hv;exact (CH w q1 p1 h1 h2 q2 q3 p2 p3).mono fun e w' he=>⟨_,he.1,(rfl:[_]=[_]),BR he.2⟩
theorem Tv (h1:W32 ds):Sp Tryz.prog I 136 [cds ds] (tit (DS (Ae (val ds)))):=by
 intro N w vs _ _ hv;obtain ⟨v,r,rfl,⟨A,c,e1,q1,q2,q3⟩,h4⟩:=hv;obtain rfl:r=[]:=h4;injection e1 with e1;subst e1;refine (BX w q1 h1 q2 q3).mono ?_;rintro e w' ⟨m,rfl,h,hm,rfl⟩;obtain rfl:=h.len;exact ⟨_,rfl,⟨A,c,rfl,h,by omega,q3⟩,Below.refl _ _⟩
theorem X7 {k:Nat}(h1:W32 ds)(h2:W32 es)(l1:ds.length≤k)(l2:es.length≤k){v:Nat}(hv:v≤val ds+val es∨v≤val ds*val es):(Ae v).length≤k+k+1:=by
 have e1:=Nat.lt_of_lt_of_le (BP h1) (Nat.pow_le_pow_right (by omega:0 < 4294967296) l1)
 have e2:=Nat.lt_of_lt_of_le (BP h2) (Nat.pow_le_pow_right (by omega:0 < 4294967296) l2)
 have e3:=Nat.mul_lt_mul'' e1 e2;have e4:4294967296 ^ k≤4294967296 ^ (k+k):=Nat.pow_le_pow_right (by omega) (by omega)
 refine B6 ?_;rw[←Nat.pow_add] at e3;rw[Nat.pow_succ];omega
theorem L8 (h1:W32 ds)(h2:W32 es)(l1:ds.length≤1048576)(l2:es.length≤1048576){v:Nat}(hv:v≤val ds+val es∨v≤val ds*val es):(Ae v).length≤1099511627776:=by
 have:=X7 h1 h2 l1 l2 hv;omega
theorem ZO {k:Nat}{t:Bool}(h:W32 es)(l:es.length≤k):Lim k (-sgn t (val es)):=by
 unfold Lim;rw[Int.natAbs_neg,Bw];exact Nat.lt_of_lt_of_le (BP h) (Nat.pow_le_pow_right (by omega) l)
theorem Xn (hx:Num x a)(hy:Num y b):Sp Tryz.prog I 188 [.ag x,.ag y] (tic (a+b)):=by
 refine Sp.n2 (fun s ds t es w1 w2 l1 l2 ea eb => ?_) hx hy
 subst ea eb;have c0:=Sf (I:=I) w1 w2;by_cases hst:s=t
 ·subst hst
  have m:=Fw (I:=I) s (val ds+val es) (L8 w1 w2 l1 l2 (.inl (Nat.le_refl _)));have d:=AbB (I:=I) w1 w2 l1 l2;rw[show sgn s (val ds)+sgn s (val es)=sgn s (val ds+val es) by unfold sgn;cases s <;> simp <;> omega]
  cases s <;> exact sr 42 [po d,po m]
 ·by_cases h:val es≤val ds
  ·have m:=Fw (I:=I) s (val ds - val es) (L8 w1 w2 l1 l2 (.inl (by omega)))
   have d:=WG (I:=I) w1 l1 h;have g:=Un (P:=Tryz.prog) 3 (BT (val ds) (val es)) 0 true (decide_eq_true (Hc h));have r:=Tv (I:=I) w2;rw[show sgn s (val ds)+sgn t (val es)=sgn s (val ds - val es) by unfold sgn;cases s <;> cases t <;> simp at hst <;> simp <;> omega]
   cases s <;> cases t <;> first | exact absurd rfl hst | exact sr 42 [po c0,pk g,po r,po d,po m]
  ·have m:=Fw (I:=I) t (val es - val ds) (L8 w1 w2 l1 l2 (.inl (by omega)))
   have d:=WG (I:=I) w2 l2 (v:=val ds) (by omega)
   have g:=Un (P:=Tryz.prog) 3 (BT (val ds) (val es)) 0 false (decide_eq_false (by rw[Ha (by omega)];decide))
   have r:=Tv (I:=I) w1;rw[show sgn s (val ds)+sgn t (val es)=sgn t (val es - val ds) by unfold sgn;cases s <;> cases t <;> simp at hst <;> simp <;> omega]
   cases s <;> cases t <;> first | exact absurd rfl hst | exact sr 42 [po c0,pk g,po r,po d,po m]
theorem AcK (hx:Num x a)(hy:Num y b):Sp Tryz.prog I 112 [.ag x,.ag y] (tic (a*b)):=by
 refine Sp.n2 (fun s ds t es w1 w2 l1 l2 ea eb => ?_) hx hy
 subst ea eb;have m:=Fw (I:=I) (s != t) (val ds*val es) (L8 w1 w2 l1 l2 (.inr (Nat.le_refl _)));have d:=Ab7 (I:=I) w1 w2 l1 l2;rw[show sgn s (val ds)*sgn t (val es)=sgn (s != t) (val ds*val es) by unfold sgn;cases s <;> cases t <;> simp[Int.neg_mul,Int.mul_neg]]
 cases s <;> cases t <;> exact sr 16 [po d,po m]
theorem AcI (hx:Num x a)(hy:Num y b):Sp Tryz.prog I 187 [.ag x,.ag y] (tic (a - b)):=by
 refine Sp.n2 (fun s ds t es w1 w2 l1 l2 ea eb => ?_) hx hy
 have hb:Lim 1048576 (-b):=by rw[eb];exact ZO w2 l2
 have na:=TG (s:=s) w1 l1;have nb:=TG (s:=t) w2 l2;rw[←ea] at na;rw[←eb] at nb;rw[Int.sub_eq_add_neg];exact sr 9 [po (J1 nb),po (Xn na (Bm hb (Nat.le_refl _)))]
theorem AcP (k:Int)(hx:Num x a)(hy:Num y b)(hk:Eg a b=k):Sp Tryz.prog I 135 [.ag x,.ag y] (BF (.int .i64 k)):=by
 refine Sp.y2 ?_ hx hy;obtain ⟨s,hs⟩ : ∃ s,decide (a < 0)=s:=⟨_,rfl⟩;obtain ⟨t,ht⟩ : ∃ t,decide (b < 0)=t:=⟨_,rfl⟩;have ca:=Gz (I:=I) s (H6 a) hs;have cb:=Gz (I:=I) t (H6 b) ht;have k1:=Sf (I:=I) (Ai a.natAbs) (Ai b.natAbs);have k2:=Sf (I:=I) (Ai b.natAbs) (Ai a.natAbs);rw[An,An] at k1 k2;unfold dz at ca cb;have hz:Eg a b=if s then (if t then BT b.natAbs a.natAbs else -1) else if t then 1 else BT a.natAbs b.natAbs:=by
  subst hs ht;by_cases h1:a < 0 <;> by_cases h2:b < 0 <;> simp only[h1,h2,decide_true,decide_false,if_true,if_false,Bool.false_eq_true]
  ·rw[MP (by omega),if_pos h1]
  ·unfold Eg;rw[if_pos (by omega)]
  ·unfold Eg;rw[if_neg (by omega),if_neg (by omega)]
  ·rw[MP (by omega),if_neg h1]
 subst hk;rw[hz];cases s <;> cases t
 ·exact sr 28 [po ca,po cb,po k1]
 ·exact sr 28 [po ca,po cb]
 ·exact sr 28 [po ca,po cb]
 ·exact sr 28 [po ca,po cb,po k2]
end
section
variable {I:WInv}{f:FuncId}{res:TV}{n d n' d':Int}
variable {x y:List It}{k k':Nat}
theorem AbA (a b:Nat)(hb:b≠0)(ha:(Ae a).length≤1073741824)(hb2:(Ae b).length≤1073741824):Sp Tryz.prog I 186 [.t (DS (Ae a)),.t (DS (Ae b))] (.tu [.t (DS (Ae (a / b))),.t (DS (Ae (a % b)))]):=by
 intro N w vs _ _ hv;obtain ⟨v,r,rfl,h1,v2,r2,rfl,h3,h4⟩:=hv;obtain rfl:r2=[]:=h4;obtain ⟨A,c,e1,q1,q2,q3⟩:=h1;obtain ⟨A',c',e3,q4,q5,q6⟩:=h3;injection e1 with e1;injection e3 with e3;subst e1 e3;refine (Hv w q1 q4 q2 q3 q5 q6 ha hb2 hb).mono ?_;rintro e w' ⟨B,n,d,B',n',d',rfl,r1,r2,r3,r4,r5,r6,r7⟩;have l1:=r1.len;have l2:=r2.len;subst l1 l2;exact ⟨_,rfl,⟨_,rfl,_,_,rfl,⟨B,d,rfl,r1,r3,r4⟩,_,_,rfl,⟨B',d',rfl,r2,r5,r6⟩,rfl⟩,r7⟩
theorem UX {a b:Int}(hb:b≠0){s t:Bool}(hs:decide (a < 0)=s)(ht:decide (b < 0)=t) :
  ((0 < a.natAbs % b.natAbs∧s≠t)→sgn (s != t) (a.natAbs / b.natAbs) - 1=a.fdiv b∧sgn s (a.natAbs % b.natAbs)+b=a.fmod b)∧(¬ (0 < a.natAbs % b.natAbs∧s≠t)→sgn (s != t) (a.natAbs / b.natAbs)=a.fdiv b∧sgn s (a.natAbs % b.natAbs)=a.fmod b):=by
 have ea:sgn s a.natAbs=a:=by subst hs;unfold sgn;by_cases h:a < 0 <;> simp[h] <;> omega
 have eb:sgn t b.natAbs=b:=by subst ht;unfold sgn;by_cases h:b < 0 <;> simp[h] <;> omega
 refine ⟨fun h => ?_,fun h => ?_⟩
 ·have:=PX (a:=a.natAbs) (b:=b.natAbs) (by omega) h.1 h.2
  rwa [ea,eb] at this
 ·have:=OA (a:=a.natAbs) (b:=b.natAbs) (by omega) h
  rwa [ea,eb] at this
theorem J8 {q1 q2:IntP}{a b:Int}(hx:Num (ip q1) a)(hy:Num (ip q2) b)(la:Lim 1048576 a)(lb:Lim 1048576 b)(hb:b≠0):Sp Tryz.prog I 149 [.ag (ip q1),.ag (ip q2)] (tdm (a.fdiv b) (a.fmod b) 0):=by
 obtain ⟨s,hs⟩ : ∃ s,decide (a < 0)=s:=⟨_,rfl⟩;obtain ⟨t,ht⟩ : ∃ t,decide (b < 0)=t:=⟨_,rfl⟩;obtain ⟨f1,f2⟩:=UX hb hs ht;have ca:=Gz (I:=I) s hx hs;have cb:=Gz (I:=I) t hy ht;have nb:=Xx (s:=t) ht lb (Nat.le_refl _);have hla:(Ae a.natAbs).length≤1048576:=B6 la;have hlb:(Ae b.natAbs).length≤1048576:=B6 lb;have dd:=AbA (I:=I) a.natAbs b.natAbs (by omega) (by omega) (by omega)
 have hb1:1≤(Ae b.natAbs).length:=by
  have:=AQ b.natAbs;omega
 have lq:Lim 1048576 (sgn (s != t) (a.natAbs / b.natAbs)):=by unfold Lim;rw[Bw];exact Nat.lt_of_le_of_lt (Nat.div_le_self _ _) la
 have lr:Lim 1048576 (sgn s (a.natAbs % b.natAbs)):=by unfold Lim;rw[Bw];exact Nat.lt_of_le_of_lt (Nat.mod_le _ _) la
 have mq:=Fw (I:=I) (s != t) (a.natAbs / b.natAbs) (by have:=B6 lq;rw[Bw] at this;omega)
 obtain ⟨u,hu⟩ : ∃ u,decide (sgn s (a.natAbs % b.natAbs) < 0)=u:=⟨_,rfl⟩;have mr:Sp Tryz.prog I 153 [.one (.o s),.t (DS (Ae (a.natAbs % b.natAbs)))] (.cv (.ag (dz u (sgn s (a.natAbs % b.natAbs))))):=(Fw (I:=I) s (a.natAbs % b.natAbs) (by have:=B6 lr;rw[Bw] at this;omega)).res fun N w v h=>AaZ hu h
 have e0:(sgn s (a.natAbs % b.natAbs)).natAbs=a.natAbs % b.natAbs:=Bw _ _;have hr0:=AQ (a.natAbs % b.natAbs);have fin : ∀ {q r:Int},q=a.fdiv b→r=a.fmod b→decide (r < 0)=u→Sp Tryz.prog I 149 [.ag (ip q1),.ag (ip q2)] (.tu [.ag (ic q),.ag (dz u r),ci 0])→Sp Tryz.prog I 149 [.ag (ip q1),.ag (ip q2)] (tdm (a.fdiv b) (a.fmod b) 0):=by
  rintro q r rfl rfl hd h;refine h.res ?_;rintro N w v ⟨vs,e,v1,l1,e1,h1,v2,l2,e2,h2,h3⟩;exact ⟨vs,e,v1,l1,e1,h1,v2,l2,e2,Adb hd h2,h3⟩
 unfold dz at mr nb;rw[e0] at mr;have num_q:=Bm lq (Nat.le_refl _);have num_r:Num (dsl u (Ae (a.natAbs % b.natAbs))) (sgn s (a.natAbs % b.natAbs)):=by
  have:=Xx (s:=u) hu lr (Nat.le_refl _);unfold dz at this
  rwa [e0] at this
 unfold dz at ca cb fin;have n1:=Bm (Ee (k:=1048576) (by omega)) (Nat.le_refl _)
 have lb1:=GC (P:=Tryz.prog) 22 97 3 (Ae b.natAbs) Tryz.underlying22;have lr1:=GC (P:=Tryz.prog) 22 97 3 (Ae (a.natAbs % b.natAbs)) Tryz.underlying22;by_cases h0:a.natAbs % b.natAbs=0
 ·obtain ⟨g1,g2⟩:=f2 (by omega)
  refine fin g1 g2 hu ?_;rw[e0];cases s <;> cases t <;> exact sr 59 [po ca,po cb,pk lb1,pk (Ba 3 (((Ae b.natAbs).length:Nat):Int) 0 false (decide_eq_false (by omega))),po dd,po mq,po mr,pk lr1,pk (MW 3 (((Ae (a.natAbs % b.natAbs)).length:Nat):Int) 0 false (decide_eq_false (by omega)))]
 ·by_cases hst:s=t
  ·obtain ⟨g1,g2⟩:=f2 (fun h=>h.2 hst)
   refine fin g1 g2 hu ?_;rw[e0];subst hst;cases s <;> exact sr 59 [po ca,po cb,pk lb1,pk (Ba 3 (((Ae b.natAbs).length:Nat):Int) 0 false (decide_eq_false (by omega))),po dd,po mq,po mr,pk lr1,pk (MW 3 (((Ae (a.natAbs % b.natAbs)).length:Nat):Int) 0 true (decide_eq_true (by omega)))]
  ·obtain ⟨g1,g2⟩:=f1 ⟨by omega,hst⟩
   rw[←g1,←g2];cases s <;> cases t <;> first | exact absurd rfl hst | exact sr 59 [po ca,po cb,pk lb1,pk (Ba 3 (((Ae b.natAbs).length:Nat):Int) 0 false (decide_eq_false (by omega))),po dd,po mq,po mr,pk lr1,pk (MW 3 (((Ae (a.natAbs % b.natAbs)).length:Nat):Int) 0 true (decide_eq_true (by omega))),po (FO 1 (by omega) (by omega)),po (AcI num_q n1),po (Xn num_r nb)]
theorem Nw {N:Nat→Prop}{w:World}{v:Value}(h:(CT.ag (Nm++ic 1)).sem N w G0 v):(frc 0).sem N w G0 v:=by
 obtain ⟨vs,e,h1⟩:=h;obtain ⟨l1,l2,e1,h2,h3⟩:=H5 h1;obtain ⟨s,A,m,c,e2,h4⟩:=Uk N w l1 h2;exact ⟨vs,e,by rw[e1];exact BW (CD ⟨s,A,m,c,e2,h4⟩) h3⟩
end
section
variable {I:WInv}{n d n' d':Int}{k k':Nat}{x y:List It}{q1 q2 q3 q4:IntP}
abbrev frz:CT := .ag (Nm++Nm)
theorem AbL (h1:Num (ip q1) n)(h2:Num (ip q2) d)(hk1:Lim 1048576 n)(hk2:Lim 1048576 d)(hd:d≠0):Sp Tryz.prog I 98 [.ag (ip q1),.ag (ip q2)] (.tu [frc (Rat.divInt n d),ci 0]):=by
 rcases Int.lt_or_gt_of_ne hd with h | h
 ·exact sr 13 [po (BL (-1) h2 (Int.sign_eq_neg_one_of_neg h)),po (En h1 h2 hk1 hk2 hd)]
 ·exact sr 13 [po (BL 1 h2 (Int.sign_eq_one_of_pos h)),po (En h1 h2 hk1 hk2 hd)]
theorem QS {z:Int}(h:R64 z):Lim 2 z:=by
 unfold Lim;have:z.natAbs≤9223372036854775808:=by omega
 exact Nat.lt_of_le_of_lt this (by decide)
theorem Rc {a b:Int}(ha:R64 a)(hb:R64 b)(h0:b≠0):Sp Tryz.prog I 48 [ci a,ci b] (.tu [frc (Rat.divInt a b),ci 0]) :=
 sr 13 [po (GA a ha.1 ha.2),po (GA b hb.1 hb.2),po (AbL (Bm (QS ha) (by omega)) (Bm (QS hb) (by omega)) ((QS ha).mono (by omega)) ((QS hb).mono (by omega)) h0)]
theorem S8 (h1:Num (ip q1) n):Sp Tryz.prog I 104 [.ag (ip q1)] (tfr (n:Rat)):=by
 have h:Sp Tryz.prog I 104 [.ag (ip q1)] (.cv (fr (cP (n+0)) (cP 1))) :=
  sr 8 [po (PK h1 OY),po (GA 1 (by omega) (by omega))]
 rw[Int.add_zero] at h;exact h
theorem Z7 (n:Int):Rat.divInt n 1=(n:Rat):=by rw[Rat.divInt_eq_div,Rat.intCast_one,Rat.div_def];grind
abbrev Dg:=Bool×List Nat
end
theorem Tab.keep {w w':World}(h:Tab w)(hb:w'.heap[1]? = w.heap[1]?):Tab w':=by
 unfold Tab Lib.TabIs World.var? at *;have hg : Tryz.prog.globalNamed "internal/strconv.uint64pow10" = some 1 := by kernel_rfl
 simp only[hg,Option.bind_some] at h ⊢;rw[hb];exact h
theorem Tab.lt {w:World}(h:Tab w):1 < w.heap.size:=by
 unfold Tab Lib.TabIs World.var? at h;have hg : Tryz.prog.globalNamed "internal/strconv.uint64pow10" = some 1 := by kernel_rfl
 simp only[hg,Option.bind_some] at h;rcases Nat.lt_or_ge 1 w.heap.size with h' | h'
 ·exact h'
 ·rw[Array.getElem?_eq_none h'] at h;simp at h
def D4:WInv:=⟨fun N w=>Tab w∧N 1,fun {N N' w w'} hw hN ⟨h1,h2⟩=>⟨h1.keep (by
 rcases hw.keep _ h1.lt with e | e
 ·exact e
 ·exact absurd h2 e.1),hN _ h2⟩⟩
def Aca (z:Int):ByteArray:=AM (Dl (decide (z < 0)) z.natAbs)
theorem TT {s:Bool}{z:Int}(h:z=sgn s z.natAbs):AM (Dl s z.natAbs)=Aca z:=by
 unfold Aca;by_cases h0:z=0
 ·subst h0;rw[show Int.natAbs 0=0 from rfl,F9,F9]
 ·congr 2
  cases s with
  | true=>rw[AaO] at h;rw[decide_eq_true];omega
  | false=>rw[Wz] at h;rw[decide_eq_false];omega
section
variable {x:List It}{z:Int}{P:Program}
theorem AbZ (hx:Num x z):Sp Tryz.prog D4 91 [.ag x] (BF (.string (Aca z))):=by
 intro N w vs hI _ hv;obtain ⟨l,rfl,h1⟩:=Ox hv;obtain ⟨s,A,n,c,rfl,h2,h3⟩:=hx N w l h1;rw[←TT h2.sign_eq];exact (SB w h2 (by omega) hI.1).mono fun e w' he=>J4 he
theorem AcH (t:TypeId)(a b:ByteArray)(h:a.size+b.size≤9223372036854775807):Be P (.bin .add t) [BF (.string a),BF (.string b)] (BF (.string (a++b))):=By (vs:=[.string a,.string b]) fun w=>by
 have h' : ¬ (9223372036854775807 < ((a.size+b.size:Nat):Int)):=by omega
 simp only[OpK.run,binOp,Op.stringOp];have hg:(eqGuard .add t (.tmp 0) (.tmp 1) (.string a) (.string b)).run P w = .ok () w:=by simp[eqGuard]
 rw[Sem.run_bind,hg];simp only[Result.andThen_ok];rw[if_neg (by show ¬ (((a.size+b.size:Nat):Int) > 9223372036854775807);omega)]
 rfl
theorem AcG (t:TypeId)(a b:ByteArray)(c:Bool)(h:(a.toList == b.toList)=c):Be P (.bin .eql t) [BF (.string a),BF (.string b)] (lb c):=By (vs:=[.string a,.string b]) fun w=>by
 subst h;simp[OpK.run,eqGuard,binOp,Op.stringOp]
theorem AcF (t:TypeId)(a b:ByteArray)(c:Bool)(h:(a.toList == b.toList) = !c):Be P (.bin .neq t) [BF (.string a),BF (.string b)] (lb c):=By (vs:=[.string a,.string b]) fun w=>by
 simp[OpK.run,eqGuard,binOp,Op.stringOp,h]
theorem ZQ {I:WInv}{f:FuncId}{args:List CT}(h:Sp Tryz.prog I f args (lb true)){w:World}{vs:List Value}(hI:I.T (fun b=>b < w.heap.size) w)(hv:all2 (CT.sem (fun b=>b < w.heap.size) w G0) args vs):Calls Tryz.prog f vs.toArray w (Gk w (.bool true)) :=
 (h (fun b=>b < w.heap.size) w vs hI (fun _ h=>h) hv).mono fun e w' ⟨v,h1,h2,h3⟩=>by
  have h2:[v]=[.bool true]:=h2;injection h2 with h2;exact ⟨by rw[h1,h2],h3⟩
theorem NN {N:Nat→Prop}{w:World}{s:Bool}{A:Option Addr}{n c:Nat}{z:Int}(h:AInt w s A n c z) : ∃ ds,W32 ds∧ds.length=n∧z=sgn s (val ds)∧Bt N w G0 (dsl s ds) [.bool s,.slice A n c]:=by
 obtain ⟨ds,h1,h2,h3,h4,h5⟩:=h;have hl:ds.length=n:=h1.1;subst hl;exact ⟨ds,h2,rfl,h5,[.bool s],[.slice A ds.length c],rfl,rfl,CD ⟨A,c,rfl,h1,h3,h4⟩⟩
end
section
variable {I:WInv}{n d n' d':Int}{k k':Nat}{x y:List It}{q1 q2 q3 q4:IntP}{P:Program}
theorem AaW (h1:Fk q1 q2 n d k):Lim k (Rat.divInt n d).num∧Lim k ((Rat.divInt n d).den:Int):=⟨EZ h1.ln,FW h1.ld h1.k0⟩
def flq (q:Rat):Int:=q.num.fdiv q.den
theorem V5 {n d:Int}(hd:0 < d):n.fdiv d=flq (Rat.divInt n d):=by
 unfold flq;rw[Dq hd,Dr hd];have hg:0 < ((Nat.gcd n.natAbs d.natAbs:Nat):Int):=by have:=KE (n:=n) (d:=d) (by omega);omega
 have d1:((Nat.gcd n.natAbs d.natAbs:Nat):Int) ∣ n:=Int.gcd_dvd_left (a:=n) (b:=d);have d2:((Nat.gcd n.natAbs d.natAbs:Nat):Int) ∣ d:=Int.gcd_dvd_right (a:=n) (b:=d);generalize ((Nat.gcd n.natAbs d.natAbs:Nat):Int)=g at *;obtain ⟨a,rfl⟩:=d1;obtain ⟨b,rfl⟩:=d2;have hb:0 < b:=by
  rcases Int.lt_or_le 0 b with h | h
  ·exact h
  ·have:=Int.mul_nonpos_of_nonneg_of_nonpos (Int.le_of_lt hg) h;omega
 rw[Int.fdiv_eq_ediv_of_nonneg _ (Int.le_of_lt hg),Int.fdiv_eq_ediv_of_nonneg _ (Int.le_of_lt hg),Int.mul_ediv_cancel_left _ (by omega),Int.mul_ediv_cancel_left _ (by omega),Int.fdiv_eq_ediv_of_nonneg _ (by omega),Int.fdiv_eq_ediv_of_nonneg _ (by omega),Int.mul_ediv_mul_of_pos _ _ hg]
theorem Aab {q:Rat}{k:Nat}(h:Lim k q.num):Lim k (flq q):=QR h (Rr q)
def clq (q:Rat):Int := -flq (-q)
theorem Aay {q:Rat}{k:Nat}(h:Lim k q.num):Lim k (clq q):=by
 unfold clq;exact (Aab (q := -q) (by rw[Rat.neg_num];exact h.neg)).neg
theorem YG (h1:Fk q1 q2 n d k):Sp Tryz.prog I 159 [fr q1 q2] (tic (clq (Rat.divInt n d))):=by
 have e:=V5 (n := -(pn n d)) (OT d);have e1:Rat.divInt (-(pn n d)) (pd d) = -Rat.divInt n d:=by rw[←Rat.neg_divInt,AaT]
 rw[e1] at e;have l:=(Xp h1.ln d).neg;have hk:=h1.k1;have lq:Lim k ((-(pn n d)).fdiv (pd d)):=QR l (OT d);unfold clq;rw[←e];exact sr 23 [po (Q6 h1.a h1.b h1.big.1 h1.big.2),po (FU (H6 (pn n d))),po (JT (ny l (by omega)) (H6 (pd d)) (AcR d)),po (FU (ny lq (by omega)))]
end
def It.av (k:Nat):It→Bool
 | .ptr j _ => !Nat.beq j k
 | .sl j => !Nat.beq j k
 | .clo _ l=>l.all fun p => !Nat.beq p.1 k
 | _=>true
def CT.av (k:Nat):CT→Bool
 | .one x=>x.av k
 | .ag l=>l.all (It.av k)
def TV.av (k:Nat):TV→Bool
 | .cv c=>c.av k
 | .tu l=>l.all (CT.av k)
def avE (k:Nat):Env→Bool
 | []=>true
 | (_,v)::r=>v.av k&&avE k r
def avB (k:Nat):Bxs→Bool
 | []=>true
 | (j,some e)::r => !Nat.beq j k&&e.its.all (It.av k)&&avB k r
 | (_,none)::r=>avB k r
section
variable {I:WInv}{nt:Nat}
def Hg (g:Gh)(k k':Nat):Gh:=fun x=>if x=k then g k' else g x
theorem J7 {g:Gh}{k k' j:Nat}(h:Nat.beq j k=false):Hg g k k' j=g j:=by
 unfold Hg;rw[if_neg];intro e;rw[e,Nat.beq_refl] at h;cases h
theorem Kw {g:Gh}{k k':Nat}:Hg g k k' k=g k':=by unfold Hg;rw[if_pos rfl]
theorem TH {b:Bool}(h:(!b)=true):b=false:=by simpa using h
theorem It.av_sem {N:Nat→Prop}{w:World}{g:Gh}{k k':Nat}{x:It}{l:List Value}(h:x.av k=true)(hs:x.sem N w g l):x.sem N w (Hg g k k') l:=by
 cases x with
 | b x=>exact hs
 | fp x=>exact hs
 | ptr j off=>obtain ⟨b,h1,h2⟩:=hs;exact ⟨b,by unfold AI;rw[J7 (TH h)];exact h1,h2⟩
 | sl j=>obtain ⟨A,n,c,h1,h2⟩:=hs;exact ⟨A,n,c,by rw[J7 (TH h)];exact h1,h2⟩
 | clo f p=>obtain ⟨cs,h1,h2⟩:=hs;exact ⟨cs,Ei (fun q hq b hb=>by unfold AI at hb ⊢;rw[J7 (TH (List.all_eq_true.1 h q hq))];exact hb) h1,h2⟩
theorem GQ {N:Nat→Prop}{w:World}{g:Gh}{k k':Nat} : ∀ {xs:List It} {l:List Value},xs.all (It.av k)=true→Bt N w g xs l→Bt N w (Hg g k k') xs l
 | [],_,_,h=>h
 | x::xs,_,hn,⟨l1,l2,e,h1,h2⟩=>by
  simp only[List.all_cons,Bool.and_eq_true] at hn;exact ⟨l1,l2,e,It.av_sem hn.1 h1,GQ hn.2 h2⟩
theorem CT.av_sem {N:Nat→Prop}{w:World}{g:Gh}{k k':Nat}{c:CT}{v:Value}(h:c.av k=true)(hs:c.sem N w g v):c.sem N w (Hg g k k') v:=by
 cases c with
 | one x=>exact It.av_sem h hs
 | ag l=>obtain ⟨vs,e,h1⟩:=hs;exact ⟨vs,e,GQ h h1⟩
theorem Ut {N:Nat→Prop}{w:World}{g:Gh}{k k':Nat} : ∀ {cs:List CT} {vs:List Value},cs.all (CT.av k)=true→all2 (CT.sem N w g) cs vs→all2 (CT.sem N w (Hg g k k')) cs vs
 | [],_,_,h=>h
 | c::cs,_,hn,⟨v,l,e,h1,h2⟩=>by
  simp only[List.all_cons,Bool.and_eq_true] at hn;exact ⟨v,l,e,CT.av_sem hn.1 h1,Ut hn.2 h2⟩
theorem TV.av_sem {N:Nat→Prop}{w:World}{g:Gh}{k k':Nat}{t:TV}{v:Value}(h:t.av k=true)(hs:t.sem N w g v):t.sem N w (Hg g k k') v:=by
 cases t with
 | cv c=>exact CT.av_sem h hs
 | tu l=>obtain ⟨vs,e,h1⟩:=hs;exact ⟨vs,e,Ut h h1⟩
theorem RA {k:Nat} : ∀ {E:Env} {t:Nat} {v:TV},avE k E=true→look E t=some v→v.av k=true
 | [],_,_,_,h=>by cases h
 | (q,u)::r,t,v,h,hv=>by
  simp only[avE,Bool.and_eq_true] at h;simp only[look] at hv;split at hv
  ·injection hv with hv;rw[←hv];exact h.1
  ·exact RA h.2 hv
theorem Kf {k:Nat} : ∀ {B:Bxs} {t:Nat} {e:Ent},avB k B=true→AB B t=some e→Nat.beq t k=false∧e.its.all (It.av k)=true
 | [],_,_,_,h=>by cases h
 | (j,some u)::r,t,e,h,hv=>by
  simp only[avB,Bool.and_eq_true] at h;simp only[AB] at hv;split at hv
  ·rename_i hk
   injection hv with hv;rw[←hv,←Nat.eq_of_beq_eq_true hk];exact ⟨TH h.1.1,h.1.2⟩
  ·exact Kf h.2 hv
 | (j,none)::r,t,e,h,hv=>by
  simp only[avB] at h;simp only[AB] at hv;split at hv
  ·cases hv
  ·exact Kf h hv
theorem BoxSem.ren {N:Nat→Prop}{w:World}{g:Gh}{base:Nat→Prop}{k k' j:Nat}{e:Ent}(h:BoxSem N w g base j e)(hg:Hg g k k' j=g j)(he:e.its.all (It.av k)=true):BoxSem N w (Hg g k k') base j e:=by
 obtain ⟨gv,h1,h2⟩:=h;refine ⟨gv,by rw[hg];exact h1,?_⟩
 rcases h2 with ⟨s,n,r1,r2,r3,r4⟩ | ⟨b,cs,l,r1,r2,r3,r4⟩
 ·exact .inl ⟨s,n,r1,r2,r3,GQ he r4⟩
 ·exact .inr ⟨b,cs,l,r1,r2,GQ he r3,r4⟩
theorem UV {t k k':Nat}{E:Env}{B:Bxs}{e:Ent}{nx:Nat}(hE:avE k E=true)(hB:avB k B=true)(he:e.its.all (It.av k)=true)(hk:k < nx)(hk':AB B k'=none)(h2k:k=2∨4≤k:=by omega) :
  Leads I nt ⟨(t,.cv (.one (.sl k')))::E,(k',some e)::B,nx⟩ ⟨(t,.s k)::E,(k,some e)::B,nx⟩:=by
 rintro N0 w0 a w ⟨N,g,h1,h2⟩;have old : ∀ j e',AB B j=some e'→AB ((k',some e)::B) j=some e':=by
  intro j e' hj;have:k'≠j:=by intro h;rw[h,hj] at hk';cases hk'
  rw[Bk,if_neg this];exact hj
 refine ⟨N,Hg g k k',{ h1 with slots := ?_,boxes := ?_,inj := ?_,rig:=fun x v hv=>by have:=w0.lo x v hv;unfold Hg;rw[if_neg (by omega)];exact h1.rig x v hv },?_⟩
 ·intro q v hv
  rw[BZ] at hv;by_cases hq:t=q
  ·subst hq
   rw[if_pos rfl] at hv;injection hv with hv;subst hv;obtain ⟨A,n,c,e1,e2⟩:=h1.slots t _ (by rw[BZ,if_pos rfl])
   exact ⟨A,n,c,by rw[Kw];exact e1,e2⟩
  ·rw[if_neg hq] at hv
   exact TV.av_sem (RA hE hv) (h1.slots q v (by rw[BZ,if_neg hq];exact hv))
 ·intro j e' hj
  rw[Bk] at hj;by_cases hjk:k=j
  ·subst hjk
   rw[if_pos rfl] at hj;injection hj with hj;subst hj;obtain ⟨gv,r1,r2⟩:=h1.boxes k' e (by rw[Bk,if_pos rfl])
   refine ⟨gv,by rw[Kw];exact r1,?_⟩
   rcases r2 with ⟨s,n,q1,q2,q3,q4⟩ | ⟨b,cs,l,q1,q2,q3,q4⟩
   ·exact .inl ⟨s,n,q1,q2,q3,GQ he q4⟩
   ·exact .inr ⟨b,cs,l,q1,q2,GQ he q3,q4⟩
  ·rw[if_neg hjk] at hj
   obtain ⟨f1,f2⟩:=Kf hB hj;exact (h1.boxes j e' (old j e' hj)).ren (J7 f1) f2
 ·have key : ∀ j e' b,AB ((k,some e)::B) j=some e'→AI (Hg g k k') j=some b → ∃ i e'',AB ((k',some e)::B) i=some e''∧AI g i=some b∧(j=k∧i=k'∨j≠k∧i=j∧AB B j=some e'):=by
   intro j e' b q1 q2;rw[Bk] at q1;by_cases hjk:k=j
   ·subst hjk
    refine ⟨k',e,by rw[Bk,if_pos rfl],?_,.inl ⟨rfl,rfl⟩⟩
    unfold AI at q2 ⊢;rw[Kw] at q2;exact q2
   ·rw[if_neg hjk] at q1
    refine ⟨j,e',old j e' q1,?_,.inr ⟨Ne.symm hjk,rfl,q1⟩⟩;unfold AI at q2 ⊢;rw[J7 (Kf hB q1).1] at q2;exact q2
  intro i j e1 e2 b q1 q2 q3 q4;obtain ⟨i',f1,r1,r2,r3⟩:=key i e1 b q1 q3;obtain ⟨j',f2,s1,s2,s3⟩:=key j e2 b q2 q4;have:=h1.inj i' j' f1 f2 b r1 s1 r2 s2;rcases r3 with ⟨a1,a2⟩ | ⟨a1,a2,a3⟩ <;> rcases s3 with ⟨b1,b2⟩ | ⟨b1,b2,b3⟩
  ·rw[a1,b1]
  ·exfalso;rw[a2,b2] at this;rw[←this,hk'] at b3;cases b3
  ·exfalso;rw[a2,b2] at this;rw[this,hk'] at a3;cases a3
  ·rw[←a2,←b2];exact this
 ·intro x hx
  show Hg g k k' x=none;have hx:nx≤x:=hx;unfold Hg;rw[if_neg (by omega)]
  exact h2 x hx
end
theorem map_some {α β:Type}{f:α→β}{xs:List α}{i:Nat}{x:α}(h:xs[i]? = some x):(xs.map f)[i]? = some (f x):=by rw[List.getElem?_map,h];rfl
section
variable {P:Program}{I:WInv}{nt:Nat}
theorem Vt {c:Code}{ex:Exit}{b:St}(hex:ex ≠ .normal)(s:Nat→St)(i0 m:Nat)(h0:i0≤m)(step : ∀ i,i0≤i→i < m→Rnd P I nt c (s i) .normal (s (i+1)))(fin:Rnd P I nt c (s m) ex b):LoopTr P I nt c (s i0) ex b:=by
 refine TM (ι:=Nat) hex s (fun i=>m - i) (fun i=>i0≤i∧i≤m) i0 ⟨Nat.le_refl _,h0⟩ ?_
 intro i hi;by_cases h:i < m
 ·exact .inl ⟨i+1,⟨by have:=hi.1;omega,h⟩,by show m - (i+1) < m - i;omega,step i hi.1 h⟩
 ·have:i=m:=by have:=hi.2;omega
  subst this;exact .inr fin
theorem Ck {c:Code}{ex:Exit}{b:St}(hex:ex ≠ .normal)(s:Nat→St)(m:Nat)(step : ∀ i,i < m→Rnd P I nt c (s i) .normal (s (i+1)))(fin:Rnd P I nt c (s m) ex b):LoopTr P I nt c (s 0) ex b :=
 Vt hex s 0 m (Nat.zero_le _) (fun i _ h=>step i h) fin
theorem Zv (t e ty:TypeId)(sz:Nat)(rows:List (List It0))(n:Int)(ht:P.underlying t=some (.slice e))(hn:(rows.length:Int)=n):Be P (.len #[t] ty) [tit (slI sz rows)] (li n):=by
 subst hn;exact Aby t e ty sz rows ht
theorem AK (t e ty:TypeId)(sz:Nat)(rows:List (List It0))(n:Int)(ht:P.underlying t=some (.slice e):=by kernel_rfl)(hn:(rows.length:Int)=n:=by rw[List.length_map] <;> omega):Be P (.len #[t] ty) [tit (slI sz rows)] (li n):=Zv t e ty sz rows n ht hn
def TVle (v v':TV):Prop := ∀ N w g x,v.sem N w g x→v'.sem N w g x
def CTle (v v':CT):Prop := ∀ N w g x,v.sem N w g x→v'.sem N w g x
def ILe (l l':List It):Prop := ∀ N w g x,Bt N w g l x→Bt N w g l' x
def XLe (x y:It):Prop := ∀ N w g l,x.sem N w g l→y.sem N w g l
def ItLe (i j:Item):Prop := ∀ N w l,i.T N w l→j.T N w l
theorem TVle.refl {v:TV}:TVle v v:=fun _ _ _ _ h=>h
theorem CTle.refl {v:CT}:CTle v v:=fun _ _ _ _ h=>h
theorem ILe.refl {v:List It}:ILe v v:=fun _ _ _ _ h=>h
theorem CTle.tv {c c':CT}(h:CTle c c'):TVle (.cv c) (.cv c'):=h
theorem ILe.ag {l l':List It}(h:ILe l l'):CTle (.ag l) (.ag l'):=fun N w g _ ⟨vs,e,hv⟩=>⟨vs,e,h N w g vs hv⟩
theorem XLe.one {x y:It}(h:XLe x y):CTle (.one x) (.one y):=fun N w g v hv=>h N w g [v] hv
theorem ItLe.x {i j:Item}(h:ItLe i j):XLe (.b (.it i)) (.b (.it j)):=fun N w _ l hl=>h N w l hl
theorem XLe.refl {x:It}:XLe x x:=fun _ _ _ _ h=>h
theorem ILe.cons {x y:It}{l l':List It}(h:XLe x y)(hl:ILe l l'):ILe (x::l) (y::l'):=fun N w g _ ⟨a,b,e,h1,h2⟩=>⟨a,b,e,h N w g a h1,hl N w g b h2⟩
theorem Adz : ∀ {l l':List CT},(∀ N w g vs,all2 (CT.sem N w g) l vs→all2 (CT.sem N w g) l' vs)→TVle (.tu l) (.tu l'):=fun h N w g _ ⟨vs,e,hv⟩=>⟨vs,e,h N w g vs hv⟩
def WkA:List CT→List CT→Prop
 | [],[]=>True
 | c::l,c'::l'=>CTle c c'∧WkA l l'
 | _,_=>False
theorem WkA.all2 {N:Nat→Prop}{w:World}{g:Gh} : ∀ {l l':List CT} {vs:List Value},WkA l l'→all2 (CT.sem N w g) l vs→all2 (CT.sem N w g) l' vs
 | [],[],_,_,h=>h
 | c::l,c'::l',_,hw,⟨v,r,e,h1,h2⟩=>⟨v,r,e,hw.1 N w g v h1,WkA.all2 hw.2 h2⟩
 | [],_::_,_,hw,_=>hw.elim
 | _::_,[],_,hw,_=>hw.elim
theorem Sp.wk {f:FuncId}{args args':List CT}{res:TV}(h:Sp P I f args res)(hw:WkA args' args):Sp P I f args' res:=h.sub fun _ _ _ hv=>hw.all2 hv
theorem Sp.rs {f:FuncId}{args:List CT}{res res':TV}(h:Sp P I f args res)(hr:TVle res res'):Sp P I f args res':=h.res fun N w v hv=>hr N w G0 v hv
theorem KS {l l':List CT}(h:WkA l l'):TVle (.tu l) (.tu l'):=fun _ _ _ _ ⟨vs,e,hv⟩=>⟨vs,e,h.all2 hv⟩
def WkE:Env→Env→Prop
 | [],[]=>True
 | (t,v)::E,(t',v')::E'=>t=t'∧TVle v v'∧WkE E E'
 | _,_=>False
def WkB:Bxs→Bxs→Prop
 | [],[]=>True
 | (k,some e)::B,(k',some e')::B'=>k=k'∧e.T=e'.T∧e.sl=e'.sl∧ILe e.its e'.its∧WkB B B'
 | _,_=>False
theorem WkE.look : ∀ {E E':Env} {t:Nat} {v':TV},WkE E E'→look E' t=some v' → ∃ v,Go.Proofs.YtdgbealknnmkoaaGreatDoor.look E t=some v∧TVle v v'
 | [],[],_,_,_,h=>by cases h
 | (t,v)::E,(t',v')::E',q,u,hw,h=>by
  obtain ⟨rfl,h1,h2⟩:=hw;rw[BZ] at h ⊢;by_cases hq:t=q
  ·rw[if_pos hq] at h ⊢
   injection h with h;subst h;exact ⟨v,rfl,h1⟩
  ·rw[if_neg hq] at h ⊢
   exact WkE.look h2 h
 | [],_::_,_,_,hw,_=>hw.elim
 | _::_,[],_,_,hw,_=>hw.elim
theorem WkB.look : ∀ {B B':Bxs} {k:Nat} {e':Ent},WkB B B'→AB B' k=some e' → ∃ e,AB B k=some e∧e.T=e'.T∧e.sl=e'.sl∧ILe e.its e'.its
 | [],[],_,_,_,h=>by cases h
 | (k,some e)::B,(k',some e')::B',q,u,hw,h=>by
  obtain ⟨rfl,h1,h2,h3,h4⟩:=hw;rw[Bk] at h ⊢;by_cases hq:k=q
  ·rw[if_pos hq] at h ⊢
   injection h with h;subst h;exact ⟨e,rfl,h1,h2,h3⟩
  ·rw[if_neg hq] at h ⊢
   exact WkB.look h4 h
 | [],_::_,_,_,hw,_=>hw.elim
 | (_,some _)::_,[],_,_,hw,_=>hw.elim
 | (_,none)::_,[],_,_,hw,_=>hw.elim
 | (_,none)::_,(_,_)::_,_,_,hw,_=>hw.elim
 | (_,some _)::_,(_,none)::_,_,_,hw,_=>hw.elim
theorem BoxSem.le {N:Nat→Prop}{w:World}{g:Gh}{base:Nat→Prop}{k:Nat}{e e':Ent}(h:BoxSem N w g base k e)(hT:e.T=e'.T)(hs:e.sl=e'.sl)(hi:ILe e.its e'.its):BoxSem N w g base k e':=by
 obtain ⟨T,sl,its⟩:=e;obtain ⟨T',sl',its'⟩:=e';simp only at hT hs hi;subst hT hs;obtain ⟨gv,h1,h2⟩:=h;refine ⟨gv,h1,?_⟩;rcases h2 with ⟨s,n,r1,r2,r3,r4⟩ | ⟨b,cs,l,r1,r2,r3,r4⟩
 ·exact .inl ⟨s,n,r1,r2,r3,hi _ _ _ _ r4⟩
 ·exact .inr ⟨b,cs,l,r1,r2,hi _ _ _ _ r3,r4⟩
theorem FI {E E':Env}{B B':Bxs}{nx:Nat}(hE:WkE E E')(hB:WkB B B'):Leads I nt ⟨E,B,nx⟩ ⟨E',B',nx⟩:=by
 rintro N0 w0 a w ⟨N,g,h1,h2⟩;refine ⟨N,g,{ h1 with slots := ?_,boxes := ?_,inj := ?_ },h2⟩
 ·intro t v hv
  obtain ⟨u,hu,hle⟩:=hE.look hv;exact hle N w g _ (h1.slots t u hu)
 ·intro k e he
  obtain ⟨u,hu,q1,q2,q3⟩:=hB.look he;exact (h1.boxes k u hu).le q1 q2 q3
 ·intro k j e e' b q1 q2 q3 q4
  obtain ⟨u,hu,_⟩:=hB.look q1;obtain ⟨v,hv,_⟩:=hB.look q2;exact h1.inj k j u v b hu hv q3 q4
theorem LoopTr.pre {c:Code}{a a' b:St}{ex:Exit}(hl:Leads I nt a a')(h:LoopTr P I nt c a' ex b):LoopTr P I nt c a ex b:=fun N0 w0 act w hs=>h N0 w0 act w (hl N0 w0 act w hs)
theorem LoopTr.post {c:Code}{a b b':St}{ex:Exit}(h:LoopTr P I nt c a ex b)(hl:Leads I nt b b'):LoopTr P I nt c a ex b':=fun N0 w0 act w hs=>wp_mono (h N0 w0 act w hs) fun e a' w' ⟨h1,h2⟩=>⟨h1,hl N0 w0 a' w' h2⟩
theorem Leads.trans {a b c:St}(h:Leads I nt a b)(h':Leads I nt b c):Leads I nt a c:=fun N0 w0 act w hs=>h' N0 w0 act w (h N0 w0 act w hs)
def Ad (rows:List (List It0)):List It:=rows.flatten.map It.b
theorem SD (rows:List (List It0))(r:List It0):Ad rows++r.map It.b=Ad (rows++[r]):=by simp[Ad]
theorem C2 (a b:List (List It0)):Ad (a++b)=Ad a++Ad b:=by simp[Ad]
theorem Ar (l:List It0):(l.map It.b).all It.noPtr=true:=by
 rw[List.all_eq_true];intro x hx;obtain ⟨y,_,rfl⟩:=List.mem_map.1 hx;rfl
theorem Ue : ∀ (a b:List It) (off:Nat),(∀ x∈a,0 < x.n)→Cj (a++b) (Cb a+off)=(Cj b off).map fun p=>(a++p.1,p.2)
 | [],b,off,_=>by
  rw[show Cb []=0 from rfl,Nat.zero_add,List.nil_append];cases Cj b off <;> rfl
 | x::a,b,off,h=>by
  have hx:=h x (by simp)
  have hw:Cb (x::a)=x.n+Cb a:=by simp[Cb]
  obtain ⟨m,hm⟩ : ∃ m,Cb (x::a)+off=m+1:=⟨Cb (x::a)+off - 1,by omega⟩
  rw[hm,List.cons_append,Cj,if_pos (by omega),show m+1 - x.n=Cb a+off by omega,Ue a b off fun y hy=>h y (by simp[hy])]
  cases Cj b off <;> rfl
theorem LD {c:List It} : ∀ {l:List It} {off:Nat} {a b:List It},Cj l off=some (a,b)→Cj (l++c) off=some (a,b++c)
 | l,0,a,b,h=>by
  have e : ∀ l:List It,Cj l 0=some ([],l):=fun l=>by cases l <;> rfl
  rw[e] at h ⊢;injection h with h;injection h with h1 h2;subst h1 h2
  rfl
 | [],_+1,_,_,h=>by cases h
 | x::xs,off+1,a,b,h=>by
  rw[List.cons_append];simp only[Cj] at h ⊢;split at h
  ·rename_i hx
   rw[if_pos hx];cases hc:Cj xs (off+1 - x.n) with
   | none=>rw[hc] at h;cases h
   | some p =>
    rw[hc] at h;injection h with h;injection h with h1 h2;subst h1 h2;rw[LD hc]
    rfl
  ·cases h
def okR (sz:Nat)(rows:List (List It0)):Prop := ∀ r∈rows,BU r=sz ∧ ∀ x∈r,0 < x.n
theorem Ri {sz:Nat}{rows:List (List It0)}(h:okR sz rows):Cb (Ad rows)=rows.length*sz ∧ ∀ x∈Ad rows,0 < x.n:=by
 refine ⟨?_,?_⟩
 ·unfold Ad
  rw[LM];induction rows with
  | nil=>simp[BU]
  | cons r rows ih =>
   have h1:=(h r (by simp)).1
   have h2:=ih fun q hq=>h q (by simp[hq])
   have e:BU (r++rows.flatten)=BU r+BU rows.flatten:=by simp[BU]
   rw[List.flatten_cons,e,h1,h2,List.length_cons,Nat.add_mul];omega
 ·intro x hx
  obtain ⟨y,hy,rfl⟩:=List.mem_map.1 hx;obtain ⟨r,hr,hy⟩:=List.mem_flatten.1 hy;exact (h r hr).2 y hy
theorem Mh {rows:List (List It0)}{i:Nat}{r:List It0}(hr:rows[i]? = some r):rows=rows.take i++r::rows.drop (i+1)∧(rows.take i).length=i:=by
 obtain ⟨h1,h2⟩:=List.getElem?_eq_some_iff.1 hr;refine ⟨?_,by rw[List.length_take];omega⟩
 rw[←h2,List.getElem_cons_drop,List.take_append_drop]
theorem R0 {sz i:Nat}{rows:List (List It0)}{r:List It0}(hr:rows[i]? = some r)(hw:okR sz rows){fo:Nat}{a b:List It}(h:Cj (r.map It.b) fo=some (a,b)):Cj (Ad rows) (i*sz+fo)=some (Ad (rows.take i)++a,b++Ad (rows.drop (i+1))):=by
 obtain ⟨h1,h2⟩:=Mh hr;have hpre:okR sz (rows.take i):=fun q hq=>hw q (List.mem_of_mem_take hq)
 obtain ⟨g1,g2⟩:=Ri hpre;rw[h2] at g1;have e:Ad rows=Ad (rows.take i)++(r.map It.b++Ad (rows.drop (i+1))):=by
  conv=>lhs;rw[h1]
  rw[C2];simp[Ad]
 rw[e,←g1,Ue _ _ _ g2,LD h]
 rfl
theorem OG {sz i:Nat}{rows:List (List It0)}{r:List It0}(hr:rows[i]? = some r)(hw:okR sz rows){fo n:Nat}{m:List It}(h:Fs (r.map It.b) fo n=some m):Fs (Ad rows) (i*sz+fo) n=some m:=by
 unfold Fs at h ⊢;split at h
 ·rename_i a b hc
  rw[R0 hr hw hc];cases hc2:Cj b n with
  | none=>rw[hc2] at h;cases h
  | some p =>
   rw[hc2] at h;injection h with h;subst h;simp only[LD hc2,Option.map_some]
 ·cases h
theorem O4 {sz i:Nat}{rows:List (List It0)}{r r':List It0}(hr:rows[i]? = some r)(hw:okR sz rows){fo:Nat}{new:List It}(h:Ew (r.map It.b) fo new=some (r'.map It.b)):Ew (Ad rows) (i*sz+fo) new=some (Ad (rows.set i r')):=by
 unfold Ew at h ⊢;split at h
 ·rename_i a b hc
  rw[R0 hr hw hc];cases hc2:Cj b (Cb new) with
  | none=>rw[hc2] at h;cases h
  | some p =>
   rw[hc2] at h;injection h with h;simp only[LD hc2,Option.map_some];obtain ⟨h1,h2⟩:=Mh hr;have hlt:i < rows.length:=(List.getElem?_eq_some_iff.1 hr).1;have e:rows.set i r'=rows.take i++r'::rows.drop (i+1):=by rw[List.set_eq_take_append_cons_drop,if_pos hlt]
   rw[e,C2];congr 1;have:Ad (r'::rows.drop (i+1))=r'.map It.b++Ad (rows.drop (i+1)):=by simp[Ad]
   rw[this,←h];simp
 ·cases h
def AT (chk:Nat→Int):Nat→Nat→Int
 | 0,_=>0
 | L+1,i=>if chk i=0 then AT chk L (i+1) else chk i
theorem Bn {chk:Nat→Int} : ∀ {L i:Nat},AT chk L i=0 ↔ ∀ j,i≤j→j < i+L→chk j=0
 | 0,i=>⟨fun _ j h1 h2=>by omega,fun _=>rfl⟩
 | L+1,i=>by
  unfold AT;by_cases h:chk i=0
  ·rw[if_pos h,Bn]
   refine ⟨fun hh j h1 h2 => ?_,fun hh j h1 h2=>hh j (by omega) (by omega)⟩
   by_cases hj:j=i
   ·rw[hj];exact h
   ·exact hh j (by omega) (by omega)
  ·rw[if_neg h]
   exact ⟨fun hh=>absurd hh h,fun hh=>hh i (Nat.le_refl _) (by omega)⟩
theorem MD {chk:Nat→Int} : ∀ {L i:Nat},AT chk L i≠0 → ∃ j,i≤j∧j < i+L∧(∀ x,i≤x→x < j→chk x=0)∧chk j=AT chk L i
 | 0,i=>fun h=>absurd rfl h
 | L+1,i=>fun h=>by
  unfold AT at h ⊢;by_cases hc:chk i=0
  ·rw[if_pos hc] at h ⊢
   obtain ⟨j,h1,h2,h3,h4⟩:=MD h;refine ⟨j,by omega,by omega,fun x hx1 hx2 => ?_,h4⟩
   by_cases hxi:x=i
   ·rw[hxi];exact hc
   ·exact h3 x (by omega) hx2
  ·rw[if_neg hc]
   exact ⟨i,Nat.le_refl _,by omega,fun x h1 h2=>by omega,rfl⟩
theorem CS {c:Code}{e:Nat}{b0:St}(chk:Nat→Int)(L:Nat)(s:Nat→St)(bc:Int→St)(step : ∀ i,i < L→chk i=0→Rnd P I nt c (s i) .normal (s (i+1)))(fin:Rnd P I nt c (s L) (.exit e) b0)(bad : ∀ i,i < L→chk i≠0→Rnd P I nt c (s i) .ret (bc (chk i))) :
  (AT chk L 0=0→LoopTr P I nt c (s 0) (.exit e) b0)∧(AT chk L 0≠0→LoopTr P I nt c (s 0) .ret (bc (AT chk L 0))):=by
 refine ⟨fun h => ?_,fun h => ?_⟩
 ·have hz:=Bn.1 h
  exact Ck (by simp) s L (fun i hi=>step i hi (hz i (Nat.zero_le _) (by omega))) fin
 ·obtain ⟨j,_,h2,h3,h4⟩:=MD h
  have hb:=bad j (by omega) (by rw[h4];exact h)
  rw[h4] at hb;exact Ck (by simp) s j (fun i hi=>step i (by omega) (h3 i (Nat.zero_le _) hi)) hb
end
def swN (k k' x:Nat):Nat:=if Nat.beq x k then k' else if Nat.beq x k' then k else x
theorem Wn (k k' x:Nat):swN k k' x=if x=k then k' else if x=k' then k else x:=by
 unfold swN;by_cases h1:x=k
 ·subst h1;simp
 ·by_cases h2:x=k'
  ·subst h2;simp[h1]
  ·simp[h1,h2]
theorem Zq (k k' x:Nat):swN k k' (swN k k' x)=x:=by
 simp only[Wn];by_cases h1:x=k
 ·subst h1
  by_cases h2:k'=x
  ·simp[h2]
  ·simp[h2]
 ·by_cases h2:x=k'
  ·subst h2;simp[h1]
  ·simp[h1,h2]
theorem Tm {k k' x:Nat}(h1:x≠k)(h2:x≠k'):swN k k' x=x:=by rw[Wn,if_neg h1,if_neg h2]
def swE (f:Nat→Nat):Env→Env
 | []=>[]
 | (t,v)::r=>(t,v.mapN f)::swE f r
def swB (f:Nat→Nat):Bxs→Bxs
 | []=>[]
 | (k,some e)::r=>(f k,some (e.out f))::swB f r
 | (k,none)::r=>(f k,none)::swB f r
def Pc:List (Nat×Nat)→St→St
 | [],s=>s
 | (k,k')::r,s=>Pc r ⟨swE (swN k k') s.E,swB (swN k k') s.B,s.nx⟩
def QD:List (Nat×Nat)→Nat→Bool
 | [],_=>true
 | (k,k')::r,nx=>(Nat.beq k 2||Nat.ble 4 k)&&(Nat.beq k' 2||Nat.ble 4 k')&&Nat.blt k nx&&Nat.blt k' nx&&QD r nx
def pT (_:Nat):Bool:=true
theorem It.all_pT (x:It):x.allN pT=true:=by cases x <;> first | rfl | (simp[It.allN,pT])
theorem NX (l:List It):l.all (It.allN pT)=true:=List.all_eq_true.2 fun x _=>It.all_pT x
theorem CT.all_pT (c:CT):c.allN pT=true:=by cases c with
 | one x=>exact It.all_pT x
 | ag l=>exact NX l
theorem TV.all_pT (c:TV):c.allN pT=true:=by cases c with
 | cv x=>exact CT.all_pT x
 | tu l=>exact List.all_eq_true.2 fun x _=>CT.all_pT x
theorem Ent.ok_pT (e:Ent):e.okN pT=true:=by unfold Ent.okN;rw[NX,Bool.or_true]
theorem Qb {f:Nat→Nat} : ∀ {E:Env} {t:Nat} {v:TV},look (swE f E) t=some v → ∃ u,look E t=some u∧v=u.mapN f
 | [],_,_,h=>by cases h
 | (q,u)::r,t,v,h=>by
  unfold swE at h;rw[BZ] at h ⊢;by_cases hq:q=t
  ·rw[if_pos hq] at h ⊢;injection h with h;exact ⟨u,rfl,h.symm⟩
  ·rw[if_neg hq] at h ⊢;exact Qb h
theorem Gt {f:Nat→Nat}(hf : ∀ x,f (f x)=x) : ∀ {B:Bxs} {k:Nat} {e:Ent},AB (swB f B) k=some e → ∃ u,AB B (f k)=some u∧e=u.out f
 | [],_,_,h=>by cases h
 | (q,some u)::r,k,e,h=>by
  unfold swB at h;rw[Bk] at h ⊢;by_cases hq:f q=k
  ·rw[if_pos hq] at h;rw[if_pos (by rw[←hq,hf])];injection h with h;exact ⟨u,rfl,h.symm⟩
  ·rw[if_neg hq] at h;rw[if_neg (fun hh=>hq (by rw[hh,hf]))];exact Gt hf h
 | (q,none)::r,k,e,h=>by
  unfold swB at h;rw[Bk] at h ⊢;by_cases hq:f q=k
  ·rw[if_pos hq] at h;cases h
  ·rw[if_neg hq] at h;rw[if_neg (fun hh=>hq (by rw[hh,hf]))];exact Gt hf h
theorem NpB.sw {f:Nat→Nat} : ∀ {B:Bxs},NpB B→NpB (swB f B)
 | [],h=>h
 | (k,none)::r,h=>NpB.sw (B:=r) h
 | (k,some e)::r,h=>by
  refine ⟨fun hs => ?_,NpB.sw h.2⟩
  by_cases he:e.sl.isSome=true
  ·rw[Ent.out_sl he];exact h.1 he
  ·unfold Ent.out at hs
   rw[if_neg he] at hs;exact absurd hs he
def QM (nx:Nat):Bxs→Bool
 | []=>true
 | (k,some e)::r=>Nat.blt k nx&&(e.sl.isSome||e.its.all (It.lt nx))&&QM nx r
 | (_,none)::r=>QM nx r
theorem KA {nx:Nat} : ∀ {B:Bxs} {t:Nat} {e:Ent},QM nx B=true→AB B t=some e→t < nx∧(e.sl.isSome||e.its.all (It.lt nx))=true
 | [],_,_,_,h=>by cases h
 | (k,some u)::r,t,e,h,hv=>by
  simp only[QM,Bool.and_eq_true] at h;simp only[AB] at hv;split at hv
  ·rename_i hk
   injection hv with hv;rw[←hv,←Nat.eq_of_beq_eq_true hk];exact ⟨GJ h.1.1,h.1.2⟩
  ·exact KA h.2 hv
 | (k,none)::r,t,e,h,hv=>by
  simp only[QM] at h;simp only[AB] at hv;split at hv
  ·cases hv
  ·exact KA h hv
theorem Xy {l:List It}(nx:Nat)(h:l.all It.noPtr=true):l.all (It.lt nx)=true:=by
 rw[List.all_eq_true] at h ⊢;intro x hx;have:=h x hx;cases x with
 | b _=>rfl
 | fp _=>rfl
 | ptr _ _=>cases this
 | sl _=>cases this
 | clo _ _=>cases this
theorem BM {a b:List It}(h:a.all It.noPtr=true)(h':b.all It.noPtr=true):(a++b).all It.noPtr=true:=by rw[List.all_append,h,h'];rfl
section
variable {P:Program}{I:WInv}{nt:Nat}
theorem Wm {E:Env}{B:Bxs}{nx k k':Nat}(hnp:NpB B)(h1:k=2∨4≤k)(h2:k'=2∨4≤k')(h3:k < nx)(h4:k' < nx):Leads I nt ⟨E,B,nx⟩ ⟨swE (swN k k') E,swB (swN k k') B,nx⟩:=by
 rintro N0 w0 a w ⟨N,g,q1,q2⟩;have hinv:=Zq k k';have hg : ∀ j,pT j=true→(fun x=>g (swN k k' x)) (swN k k' j)=g j:=fun j _=>by show g (swN k k' (swN k k' j))=g j;rw[hinv]
 have hb : ∀ x,AI (fun x=>g (swN k k' x)) x=AI g (swN k k' x):=fun x=>rfl
 refine ⟨N,fun x=>g (swN k k' x),{ q1 with slots := ?_,boxes := ?_,inj := ?_,rig := ?_ },?_⟩
 ·intro t v hv
  obtain ⟨u,hu,rfl⟩:=Qb hv;exact TV.mapN_sem (g2:=fun x=>g (swN k k' x)) (f:=swN k k') hg (TV.all_pT u) (q1.slots t u hu)
 ·intro x e he
  obtain ⟨u,hu,rfl⟩:=Gt hinv he;have:=(q1.boxes _ u hu).mapN (g2:=fun x=>g (swN k k' x)) (f:=swN k k') (p:=pT) hg rfl (Ent.ok_pT u) (F4 hnp hu)
  rw[hinv] at this;exact this
 ·intro x y e e' b r1 r2 r3 r4
  obtain ⟨u,hu,_⟩:=Gt hinv r1;obtain ⟨v,hv,_⟩:=Gt hinv r2;have:=q1.inj _ _ u v b hu hv r3 r4;rw[←hinv x,this,hinv]
 ·intro x v hv
  have:=w0.lo x v hv;show g (swN k k' x)=some v;rw[Tm (by omega) (by omega)]
  exact q1.rig x v hv
 ·intro x hx
  have hx:nx≤x:=hx;show g (swN k k' x)=none;rw[Tm (by omega) (by omega)]
  exact q2 x hx
theorem Ac0 {k:Nat}(h:(Nat.beq k 2||Nat.ble 4 k)=true):k=2∨4≤k:=by
 rw[Bool.or_eq_true] at h;exact h.imp Nat.eq_of_beq_eq_true Nat.le_of_ble_eq_true
theorem TJ : ∀ (l:List (Nat×Nat)) (s:St),(Pc l s).nx=s.nx
 | [],s=>rfl
 | (k,k')::r,s=>by rw[Pc,TJ r]
theorem My : ∀ (l:List (Nat×Nat)) (s:St),QD l s.nx=true→NpB s.B→Leads I nt s (Pc l s)
 | [],s,_,_=>fun _ _ _ _ h=>h
 | (k,k')::r,s,h,hnp=>by
  simp only[QD,Bool.and_eq_true] at h;obtain ⟨⟨⟨⟨h1,h2⟩,h3⟩,h4⟩,h5⟩:=h;exact (Wm hnp (Ac0 h1) (Ac0 h2) (GJ h3) (GJ h4)).trans (My r _ h5 hnp.sw)
theorem SP {E:Env}{B:Bxs}{nx nx':Nat}(hE:ltE nx' E=true)(hB:QM nx' B=true)(hnp:NpB B)(h2n:4≤nx'):Leads I nt ⟨E,B,nx⟩ ⟨E,B,nx'⟩:=by
 rintro N0 w0 a w ⟨N,g,h1,h2⟩;have hlt : ∀ {k e},AB B k=some e→k < nx'∧e.its.all (It.lt nx')=true:=fun he=>by
  obtain ⟨r1,r2⟩:=KA hB he;refine ⟨r1,?_⟩;rw[Bool.or_eq_true] at r2;exact r2.elim (fun hs=>Xy _ (F4 hnp he hs)) id
 refine ⟨N,Jl g nx',{ h1 with slots:=fun t v hv=>TV.lt_sem (M1 hE hv) (h1.slots t v hv),boxes:=fun k e he=>(h1.boxes k e he).cut (hlt he).1 (hlt he).2,inj := ?_,rig:=fun x v hv=>by rw[JY (by have:=w0.lo x v hv;omega)];exact h1.rig x v hv },fun k hk=>by show Jl g nx' k=none;unfold Jl;rw[if_neg (Nat.not_lt.2 hk)]⟩
 intro k j e e' bb q1 q2 q3 q4;rw[FC (hlt q1).1] at q3;rw[FC (hlt q2).1] at q4;exact h1.inj k j e e' bb q1 q2 q3 q4
theorem AN (l:List (Nat×Nat)){s t:St}(hE:WkE (Pc l s).E t.E)(hB:WkB (Pc l s).B t.B)(h1:QD l s.nx=true:=by rfl)(hnp:NpB s.B:=by repeat' first | exact trivial | exact fun h=>absurd h Bool.false_ne_true | exact fun _=>Ar _ | exact fun _=>rfl | exact fun _=>BM (Ar _) rfl | refine ⟨?_,?_⟩)(hnp2:NpB t.B:=by repeat' first | exact trivial | exact fun h=>absurd h Bool.false_ne_true | exact fun _=>Ar _ | exact fun _=>rfl | exact fun _=>BM (Ar _) rfl | refine ⟨?_,?_⟩)(hn:(Nat.ble s.nx t.nx||(Nat.ble 4 t.nx&&ltE t.nx t.E&&QM t.nx t.B))=true:=by rfl):Leads I nt s t:=by
 have hx:=TJ l s;have a:=My (I:=I) (nt:=nt) l s h1 hnp;have b:Leads I nt (Pc l s) ⟨t.E,t.B,s.nx⟩:=by rw[←hx];exact FI hE hB
 refine (a.trans b).trans ?_;rw[Bool.or_eq_true,Bool.and_eq_true,Bool.and_eq_true] at hn;rcases hn with hn | ⟨⟨h2,h3⟩,h4⟩
 ·rintro N0 w0 a w ⟨N,g,q1,q2⟩
  exact ⟨N,g,q1,fun k hk=>q2 k (Nat.le_trans (Nat.le_of_ble_eq_true hn) hk)⟩
 ·exact SP h3 h4 hnp2 (Nat.le_of_ble_eq_true h2)
theorem Rnd.nam (l:List (Nat×Nat)){c:Code}{r s t:St}{ex:Exit}(h:Rnd P I nt c r ex s)(hE:WkE (Pc l s).E t.E)(hB:WkB (Pc l s).B t.B)(h1:QD l s.nx=true:=by rfl)(hnp:NpB s.B:=by repeat' first | exact trivial | exact fun h=>absurd h Bool.false_ne_true | exact fun _=>Ar _ | exact fun _=>rfl | exact fun _=>BM (Ar _) rfl | refine ⟨?_,?_⟩)(hnp2:NpB t.B:=by repeat' first | exact trivial | exact fun h=>absurd h Bool.false_ne_true | exact fun _=>Ar _ | exact fun _=>rfl | exact fun _=>BM (Ar _) rfl | refine ⟨?_,?_⟩)(hn:(Nat.ble s.nx t.nx||(Nat.ble 4 t.nx&&ltE t.nx t.E&&QM t.nx t.B))=true:=by rfl):Rnd P I nt c r ex t :=
 h.leads (AN l hE hB h1 hnp hnp2 hn)
def PickE (E:Env):Env→Prop
 | []=>True
 | (t,v)::r=>look E t=some v∧PickE E r
def PickB (B:Bxs):Bxs→Prop
 | []=>True
 | (k,some e)::r=>AB B k=some e∧PickB B r
 | (_,none)::r=>False
theorem PickE.look {E:Env} : ∀ {F:Env} {t:Nat} {v:TV},PickE E F→look F t=some v→Go.Proofs.YtdgbealknnmkoaaGreatDoor.look E t=some v
 | [],_,_,_,h=>by cases h
 | (q,u)::r,t,v,hp,h=>by
  rw[BZ] at h;by_cases hq:q=t
  ·rw[if_pos hq] at h;rw[←hq,←h];exact hp.1
  ·rw[if_neg hq] at h;exact PickE.look hp.2 h
theorem PickB.look {B:Bxs} : ∀ {F:Bxs} {k:Nat} {e:Ent},PickB B F→AB F k=some e→AB B k=some e
 | [],_,_,_,h=>by cases h
 | (q,some u)::r,k,e,hp,h=>by
  rw[Bk] at h;by_cases hq:q=k
  ·rw[if_pos hq] at h;rw[←hq,←h];exact hp.1
  ·rw[if_neg hq] at h;exact PickB.look hp.2 h
 | (q,none)::r,_,_,hp,_=>hp.elim
theorem FP {E E':Env}{B B':Bxs}{nx:Nat}(hE:PickE E E')(hB:PickB B B'):Leads I nt ⟨E,B,nx⟩ ⟨E',B',nx⟩:=by
 rintro N0 w0 a w ⟨N,g,h1,h2⟩;exact ⟨N,g,h1.weak (fun _ _ h=>hE.look h) (fun _ _ h=>hB.look h),h2⟩
theorem EC {t k nx:Nat}{E:Env}{B:Bxs}(T s:Nat)(h:look E t=some (BF (.slice none 0 0)))(h1:(avE k E&&avB k B&&Nat.blt k nx&&(Nat.beq k 2||Nat.ble 4 k))=true)(hB:AB B nx=none):Leads I nt ⟨E,B,nx⟩ ⟨(t,.s k)::E,(k,some ⟨T,some (s,0),[]⟩)::B,nx+1⟩:=by
 simp only[Bool.and_eq_true] at h1;have:=Ac0 h1.2;have a:Leads I nt ⟨E,B,nx⟩ ⟨(t,BF (.slice none 0 0))::E,B,nx⟩:=by
  rintro N0 w0 a w ⟨N,g,q1,q2⟩;refine ⟨N,g,q1.weak (fun q v hv => ?_) (fun _ _ h=>h),q2⟩
  rw[BZ] at hv;by_cases hq:t=q
  ·rw[if_pos hq] at hv;rw[←hq,←hv];exact h
  ·rw[if_neg hq] at hv;exact hv
 exact a.trans ((Vn T s).trans (UV (k:=k) h1.1.1.1 h1.1.1.2 rfl (Nat.lt_succ_of_lt (GJ h1.1.2)) hB))
theorem ILe.eq {l l':List It}(h:l=l'):ILe l l':=h▸ILe.refl
end
end Go.Proofs.YtdgbealknnmkoaaGreatDoor
