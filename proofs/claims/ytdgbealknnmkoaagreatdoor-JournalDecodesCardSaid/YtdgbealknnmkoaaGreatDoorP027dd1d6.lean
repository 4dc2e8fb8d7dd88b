/- Texts of one proof, put together by a program: each lemma is proved for all values of its variables, under the premises that it states. -/
import Derived.Test.YtdgbealknnmkoaaGreatDoorP0fb201b8
import Derived.Test.YtdgbealknnmkoaaGreatDoorPdacd6d51
set_option linter.unusedVariables false
set_option linter.unusedSimpArgs false
namespace Go.Proofs.YtdgbealknnmkoaaGreatDoor
open Go Go.RowKit
abbrev chR (x:Ch)(p:Fg):CT := .ag ([.i x.kind,.i x.node]++(frl p++[.i x.fst,.i x.nxt,.i x.cost]))
def ACh (w:World)(v:Value)(x:Ch)(p:Fg):Prop:=W2 p∧Mem p∧(chR x p).sem (fun b=>b < w.heap.size) w G0 v
theorem AcZ {p:Fg}{k:Nat}(h1:p.1.2.length≤k)(h2:p.2.2.length≤k)(h0:0 < k)(hw:W2 p):ILe (frl p) [.b (.it (fF false k (vq p)))]:=by
 rintro N w g vs hl;obtain ⟨l1,l2,e1,h1',h2'⟩:=H5 hl;have key : ∀ {s:Bool} {ds:List Nat} {l:List Value},W32 ds→ds.length≤k→Bt N w g (dsl s ds) l→(IP (aP k (sgn s (val ds)))).T N w l:=by
  rintro s ds l hw32 hlen ⟨m1,r1,e1,g1,m2,r2,e2,g2,g3⟩;have g3:r2=[]:=g3;have g1:m1=[_]:=g1;subst g3 g1;obtain ⟨A,c,e3,hr,hc1,hc2⟩:=g2;subst e3;exact ⟨s,A,ds.length,c,by rw[e1,e2];rfl,⟨ds,hr,hw32,hc1,hc2,rfl⟩,hlen⟩
 exact ⟨vs,[],(List.append_nil vs).symm,⟨vn p,vd p,l1,l2,e1,key hw.1 h1 h1',key hw.2 h2 h2',rfl,h0,fun h=>by cases h⟩,rfl⟩
theorem YE {x:Ch}{p:Fg}{k:Nat}(h1:p.1.2.length≤k)(h2:p.2.2.length≤k)(h0:0 < k)(hw:W2 p):ILe ([.i x.kind,.i x.node]++(frl p++[.i x.fst,.i x.nxt,.i x.cost])) [.i x.kind,.i x.node,.b (.it (fF false k (vq p))),.i x.fst,.i x.nxt,.i x.cost] :=
 ILe.refl.app ((AcZ h1 h2 h0 hw).app ILe.refl)
def ABy (w:World)(v:Value)(xs:List Nat):Prop:=B8 xs∧(CT.one (.b (.it (bI xs)))).sem (fun b=>b < w.heap.size) w G0 v
theorem AcO {w:World}{B n c:Nat}{A:Option Addr}{xs:List Nat}(h:Rd .u8 w B A n xs)(hB:B≤w.heap.size)(hnc:n≤c)(hc:c≤maxLen):(bI xs).T (fun b=>b < w.heap.size) w [.slice A n c]:=by
 have hl:=h.len;refine ⟨A,c,by rw[List.length_map,hl],by rw[List.length_map,hl];exact hnc,hc,fun hne => ?_⟩
 have hn:0 < n:=by
  rcases Nat.eq_zero_or_pos n with h0 | h0
  ·rw[h0] at hl;rw[List.eq_nil_of_length_eq_zero hl] at hne;exact absurd rfl hne
  ·exact h0
 obtain ⟨b,off,rfl,hb,hcell⟩:=h.2 hn;refine ⟨b,off,rfl,fun i r hi => ?_⟩
 have hil:i < xs.length:=by have:=(List.getElem?_eq_some_iff.1 hi).1;simpa using this
 rw[Hz hil] at hi;injection hi with hi;subst hi;have hx:=hcell i (xs.getD i 0) (by rw[List.getD_eq_getElem?_getD,List.getElem?_eq_getElem hil];rfl)
 cases hq:w.heap[b]? with
 | none=>simp[World.cell?,hq] at hx
 | some o =>
  cases o with
  | cells cs T fr =>
   refine ⟨cs,T,fr,[.int .u8 ((xs.getD i 0:Nat):Int)],by show b < w.heap.size;omega,hq,?_,[_],[],rfl,rfl,rfl⟩
   simp only[World.cell?,hq] at hx;apply List.ext_getElem?;intro j;cases j with
   | zero=>simp only[List.getElem?_take,List.getElem?_drop];simpa using hx
   | succ j=>simp;omega
  | _=>simp[World.cell?,hq] at hx
section
open Go.ChangeShapes Go.WideShapes Go.ChangeAt Go.Joins Go.Deep
theorem Tryz.cellsCh:Tryz.prog.cellsOf 28=9:=by kernel_rfl
theorem Tryz.cellsU8:Tryz.prog.cellsOf 5=1:=by kernel_rfl
set_option maxRecDepth 100000 in
theorem RB {H:Type}{enc:TypeId×Value→H}{W:World}{r:Reach}{b0:Nat}{v:Value}{d:DataW H}{p:List MemPlace}(hv:Value.okWide Tryz.prog W r b0 31 v)(h:DataW.Trod enc Tryz.prog W 0 (fun _=>true) true 31 v d p) : ∃ xs,ABy W v xs:=by
 have h':=h;obtain ⟨fuel,hf⟩:=h';obtain ⟨A,n,c,e⟩:=slice_form Tryz.underlying31 hf;have:v = .slice A n c:=by
  cases v with
  | agg x=>cases hv
  | slice a n' c'=>exact (List.cons.inj e).1
  | _=>cases e
 subst this;obtain ⟨xs,hr⟩:=YU Tryz.underlying31 Tryz.underlying5 Tryz.cellsU8 h;exact ⟨xs,hr.byte,AcO hr.1 (Nat.le_refl _) hr.2.1 hr.2.2.1⟩
set_option maxRecDepth 100000 in
theorem VP {H:Type}{enc:TypeId×Value→H}{W:World}{r:Reach}{b0:Nat}{v:Value}{d:DataW H}{p:List MemPlace}(hv:Value.okWide Tryz.prog W r b0 28 v)(h:DataW.Trod enc Tryz.prog W 0 (fun _=>true) true 28 v d p)
  (hz : ∀ x∈DataW.weights Tryz.prog 28 d,x≤reachBytes) : ∃ x q,ACh W v x q:=by
 obtain ⟨cs,rfl,hsz⟩:=okWide_struct Tryz.underlying28 hv;obtain ⟨fuel,hf⟩:=h;have hf:DataW.trod enc Tryz.prog W 0 (fun _=>true) true fuel 28 cs.toList=some (d,p):=hf
 obtain ⟨xs,n,_,e,hl,hlen,hf⟩:=DataW.trod_struct Tryz.underlying28 hf;rw[Tryz.cellsCh] at hl;obtain ⟨l⟩:=cs
 match l,hl,xs,hlen with
 | [c0,c1,c2,c3,c4,c5,c6,c7,c8],_,[y0,y1,y2,y3,y4,y5],_ =>
  have h0:DataW.trod enc Tryz.prog W 0 (fun _=>true) true n 3 [c0]=some y0:=by simpa [Tryz.cellsI] using hf 0 _ rfl
  have h1:DataW.trod enc Tryz.prog W 0 (fun _=>true) true n 3 [c1]=some y1:=by simpa [Tryz.cellsI] using hf 1 _ rfl
  have h2:DataW.trod enc Tryz.prog W 0 (fun _=>true) true n 26 [c2,c3,c4,c5]=some y2:=by simpa [Tryz.cellsFrac] using hf 2 _ rfl
  have h3:DataW.trod enc Tryz.prog W 0 (fun _=>true) true n 3 [c6]=some y3:=by simpa [Tryz.cellsI] using hf 3 _ rfl
  have h4:DataW.trod enc Tryz.prog W 0 (fun _=>true) true n 3 [c7]=some y4:=by simpa [Tryz.cellsI] using hf 4 _ rfl
  have h5:DataW.trod enc Tryz.prog W 0 (fun _=>true) true n 3 [c8]=some y5:=by simpa [Tryz.cellsI] using hf 5 _ rfl
  obtain ⟨z0,e0,_⟩:=DataW.trod_int Tryz.underlying3 h0;obtain ⟨z1,e1,_⟩:=DataW.trod_int Tryz.underlying3 h1;obtain ⟨z3,e3,_⟩:=DataW.trod_int Tryz.underlying3 h3;obtain ⟨z4,e4,_⟩:=DataW.trod_int Tryz.underlying3 h4;obtain ⟨z5,e5,_⟩:=DataW.trod_int Tryz.underlying3 h5;simp only[List.cons.injEq,and_true] at e0 e1 e3 e4 e5;subst e0 e1 e3 e4 e5;injection e with ed ep;subst ed;obtain ⟨q,g1,g2,g3⟩:=We h2 (fun x hx=>hz x (by
   simp only[DataW.weights,Tryz.underlying28];exact DataW.weights_mem_each (j:=2) (t:=26) (d:=y2.1) rfl rfl x hx))
  refine ⟨⟨z0,z1,0,z3,z4,z5⟩,q,g1,g2,[.int .i64 z0,.int .i64 z1,c2,c3,c4,c5,.int .i64 z3,.int .i64 z4,.int .i64 z5],rfl,?_⟩;exact BW (l1:=[.int .i64 z0,.int .i64 z1]) ⟨[_],_,rfl,rfl,[_],_,rfl,rfl,rfl⟩ (BW (l1:=[c2,c3,c4,c5]) g3 ⟨[_],_,rfl,rfl,[_],_,rfl,rfl,[_],_,rfl,rfl,rfl⟩)
end
section
theorem QU {f:FuncId}{args:List CT}(h:Sp Tryz.prog Am f args (lb true)){w:World}(hT:Tab w)(hM : ∃ m:Int,w.cell? ⟨0,0,none⟩=some (.int .i64 m)){vs:List Value}(hv:all2 (CT.sem (fun b=>b < w.heap.size) w G0) args vs):Calls Tryz.prog f vs.toArray w (Gk w (.bool true)):=by
 have hlt:0 < w.heap.size:=by
  obtain ⟨m,h2⟩:=hM;rcases Nat.lt_or_ge 0 w.heap.size with h' | h'
  ·exact h'
  ·unfold World.cell? at h2
   rw[Array.getElem?_eq_none h'] at h2;simp at h2
 exact ZQ h ⟨⟨hT,hT.lt⟩,hM,hlt⟩ hv
end
section
variable {I:WInv}
def smB (p:Fg):Bool:=decide (p.1.2.length≤50)&&decide (p.2.2.length≤50)
theorem To (x:Ch)(p:Fg)(b:Bool)(h:smB p=b):Sp Tryz.prog I 11 [chR x p] (lb b):=by
 unfold smB at h;by_cases h1:p.1.2.length≤50
 ·by_cases h2:p.2.2.length≤50
  ·rw[decide_eq_true h1,decide_eq_true h2] at h;subst h
   exact sr 17 [pk (GC 22 97 3 p.1.2 (by kernel_rfl)),pk (Fn 3 ((p.1.2).length:Int) 50),pk (GC 22 97 3 p.2.2 (by kernel_rfl)),pk (Fn 3 ((p.2.2).length:Int) 50)]
  ·rw[decide_eq_true h1,decide_eq_false h2] at h;subst h
   exact sr 17 [pk (GC 22 97 3 p.1.2 (by kernel_rfl)),pk (Fn 3 ((p.1.2).length:Int) 50),pk (GC 22 97 3 p.2.2 (by kernel_rfl)),pk (GK 3 ((p.2.2).length:Int) 50)]
 ·rw[decide_eq_false h1] at h;subst h
  exact sr 17 [pk (GC 22 97 3 p.1.2 (by kernel_rfl)),pk (GK 3 ((p.1.2).length:Int) 50)]
end
theorem L9 {y:Ch}:Bb y≠([],0):=by
 intro h;obtain ⟨n,_,_,h1⟩:=GW h;have p1:=F8 1;have p2:=F8 2;have p3:=F8 3;rcases h1 with ⟨_,_,e⟩ | ⟨a,c,_,_,_,e⟩ | ⟨_,_,e⟩ <;> (have:=congrArg List.length e;simp only[List.length_nil,List.length_append] at this;omega)
theorem XC {x:Ch}(h:(Bb x).2≠0):(Bb x).1=[]:=by
 unfold Bb at h ⊢;split
 ·rfl
 ·rename_i h1
  rw[if_neg h1] at h;split
  ·rfl
  ·rename_i h2
   rw[if_neg h2] at h;exact absurd rfl h
theorem Pm {x:Ch}(h:(Bb x).2=0):Lq x.q 84:=by
 obtain ⟨n,_,_,h1⟩:=GW (GU h);have h0:Lq 0 84:=⟨F5 84,Ee (by omega),by omega⟩
 rcases h1 with ⟨_,hl,_⟩ | ⟨a,c,_,_,e,_⟩ | ⟨e,_,_⟩
 ·exact TU hl
 ·rw[e];exact h0
 ·rw[e];exact h0
theorem Rj (x:Ch)(p:Fg)(hw:W2 p):Sp Tryz.prog Am 3 [chR x p] (lb true):=by
 by_cases hb:smB p=true
 ·have hs:=To (I:=Am) x p true hb
  have h1:p.1.2.length≤50:=by unfold smB at hb;simp at hb;exact hb.1
  have h2:p.2.2.length≤50:=by unfold smB at hb;simp at hb;exact hb.2
  obtain ⟨y,hy⟩ : ∃ y:Ch,y=⟨x.kind,x.node,vq p,x.fst,x.nxt,x.cost⟩:=⟨_,rfl⟩;have hE:=(SF (c:=false) (k:=50) y (by omega)).inv OF
  have hR:=(GR (I:=Am) (c:=false) (k:=50) y (by omega)).1
  have hq:=Pz (I:=Am) (Bb y).1 (Ef y);by_cases h0:(Bb y).2=0
  ·have hD:=Po (j:=84) (GU h0) (Pm h0)
   have hch:=Hd (I:=Am) (c:=false) (k:=84) (j:=50) [y] (by simp) (by omega) (by omega)
   rw[h0] at hE hR;generalize (Bb y).1=b at *;subst hy;exact sr 56 [po (hs),pa,pm ((show Leads Am _ ⟨[(1,.p 0 0),(2,.o false),(10,.o true),(11,.o false)],[(0,some ⟨28,none,[.i x.kind,.i x.node,.o p.1.1,.b (.it (DS p.1.2)),.o p.2.1,.b (.it (DS p.2.2)),.i x.fst,.i x.nxt,.i x.cost]⟩)],5⟩ ⟨[(1,.p 0 0),(2,.o false),(10,.o true),(11,.o false)],[(0,some ⟨28,none,[.i x.kind,.i x.node,.b (.it (fF false 50 (vq p))),.i x.fst,.i x.nxt,.i x.cost]⟩)],5⟩ from FI ⟨rfl,TVle.refl,rfl,TVle.refl,rfl,TVle.refl,rfl,TVle.refl,trivial⟩ ⟨rfl,rfl,rfl,(YE h1 h2 (by omega) hw),trivial⟩)),po (hE),po (hR),pa,po (hq),pa,po (hD),pa,pa,pk (DG true 84 (⟨x.kind,x.node,vq p,x.fst,x.nxt,x.cost⟩:Ch)),pk (DG false 50 (⟨x.kind,x.node,vq p,x.fst,x.nxt,x.cost⟩:Ch)),po (hch),po (Cv)]
  ·have hD:=JI (b:=[]) (fun z hz=>by cases hz) (fun y=>L9)
   rw[←XC h0] at hD;generalize (Bb y).2=r at *;generalize (Bb y).1=b at *;subst hy;exact sr 56 [po (hs),pa,pm ((show Leads Am _ ⟨[(1,.p 0 0),(2,.o false),(10,.o true),(11,.o false)],[(0,some ⟨28,none,[.i x.kind,.i x.node,.o p.1.1,.b (.it (DS p.1.2)),.o p.2.1,.b (.it (DS p.2.2)),.i x.fst,.i x.nxt,.i x.cost]⟩)],5⟩ ⟨[(1,.p 0 0),(2,.o false),(10,.o true),(11,.o false)],[(0,some ⟨28,none,[.i x.kind,.i x.node,.b (.it (fF false 50 (vq p))),.i x.fst,.i x.nxt,.i x.cost]⟩)],5⟩ from FI ⟨rfl,TVle.refl,rfl,TVle.refl,rfl,TVle.refl,rfl,TVle.refl,trivial⟩ ⟨rfl,rfl,rfl,(YE h1 h2 (by omega) hw),trivial⟩)),po (hE),po (hR),pk (At 32 r r),po (hq),pa,po (hD),pk (AR 32 r 0),pa,po (Cv)]
 ·have hs:=To (I:=Am) x p false (by simpa using hb)
  exact sr 56 [po (hs),pa,po (Cv)]
theorem Jb (w:World){v:Value}{x:Ch}{p:Fg}(h:ACh w v x p)(hT:Tab w)(hM : ∃ m:Int,w.cell? ⟨0,0,none⟩=some (.int .i64 m)):Calls Tryz.prog 3 #[v] w (Gk w (.bool true)) :=
 QU (Rj x p h.1) hT hM ⟨_,_,rfl,h.2.2,rfl⟩
theorem Pq {q:Rat}{n:Nat}{cs:List Ch}(h:Jok q n cs)(hn:n≤10):(jby cs).length≤10000:=by
 have h1:=Pp cs h.enc;have h2:=h.len;omega
theorem RC (l m:List Int)(hl:l.length≤35184372087808)(hm:m.length≤35184372087808):Sp Tryz.prog Am 5 [.t (slI 1 (l.map Ag)),.t (slI 1 (m.map Ag))] (lb true):=by
 have hj:=Pk (I:=Am) l hl;have hbl:=Pq (S3 l) (Nat.le_refl _);have hch:=SU (I:=Am) m 0 (by omega) hm
 have ha:=YT (I:=Am) m 1 (by omega) hm
 have hb:=KD (jnS l);generalize trA (B9 (atS l 0)) (jnS l)=S at *;obtain ⟨L,f,z⟩:=S
 dsimp only at hj
 generalize jby (jnS l)=b at *;generalize jnS l=cs at *;generalize Kc (atS m 0)=x at *;generalize atS m 1=a at *;have key : ∀ y:Ch,∃ e r,Sp Tryz.prog Am 22 [.t (bI b),chK false 12 y] (.tu [.t (bI e),ci r])∧Sp Tryz.prog Am 23 [.t (bI b),chK false 12 y] (.tu [.t (bI e),ci r])∧B8 e:=fun y =>
  ⟨_,_,(RD (c:=false) (k:=12) b (by omega) y (by omega)).inv OF,NJ (c:=false) (k:=12) b (by omega) y (by omega),ZT hb y⟩
 by_cases h:a.tmod 8=0
 ·obtain ⟨e,r,hA,hR,he⟩:=key ⟨x.kind,-1,x.q,x.fst,x.nxt,x.cost⟩
  have hq:=Pz (I:=Am) e he;exact sr 49 [po (hj),po (hch),po (ha),pk (DX 3 a 8 (by omega)),pk (Ak 3 ((a).tmod 8) 0),po (hA),po (hR),pk (Ak 32 r r),po (hq),po (Cv)]
 ·obtain ⟨e,r,hA,hR,he⟩:=key x
  have hq:=Pz (I:=Am) e he;exact sr 49 [po (hj),po (hch),po (ha),pk (DX 3 a 8 (by omega)),pk (Af 3 ((a).tmod 8) 0),po (hA),po (hR),pk (Ak 32 r r),po (hq),po (Cv)]
theorem Jd (w:World){u v:Value}{l m:List Int}(h1:O1 w u l)(h2:O1 w v m)(hT:Tab w)(hM : ∃ m:Int,w.cell? ⟨0,0,none⟩=some (.int .i64 m)):Calls Tryz.prog 5 #[u,v] w (Gk w (.bool true)) :=
 QU (RC l m h1.1 h2.1) hT hM ⟨_,_,rfl,h1.2,_,_,rfl,h2.2,rfl⟩
theorem Acr {c:Bool}{k:Nat}(cs:List Ch)(i:Nat)(hi:i < cs.length):Be Tryz.prog (.slc 39 true true false) [tit (csI c k cs),li (i:Int),li ((i:Int)+1)] (tit (csI c k [cat cs i])):=by
 have:=Tp (P:=Tryz.prog) 39 28 9 (cs.map (Br c k)) i (i+1) (i:Int) ((i:Int)+1) rfl (by omega) (by omega) (by rw[List.length_map];omega) (by kernel_rfl) (by kernel_rfl)
 rw[←List.map_take,←List.map_drop,GH hi] at this;have e:(cs.take i++[cat cs i]).drop i=[cat cs i]:=by
  rw[List.drop_append,List.drop_of_length_le (by rw[List.length_take];omega),List.length_take,show i - min i cs.length=0 by omega];rfl
 rw[e] at this;exact this
def S7 (cs:List Ch)(b:List Nat)(a i:Int):Go.Proofs.YtdgbealknnmkoaaGreatDoor.St:=⟨[(3,.t (slI 9 ((cs).map (Br false 12)))),(4,.t (slI 1 ((b).map (Aa)))),(6,.i a),(7,.i i)],[],50⟩
theorem S9 (l:List Int)(hl:l.length≤35184372087808):Sp Tryz.prog Am 7 [.t (slI 1 (l.map Ag))] (lb true):=by
 have hj:=Pk (I:=Am) l hl;have hok:=S3 l;have hbl:=Pq hok (Nat.le_refl _);have hb:=KD (jnS l);generalize trA (B9 (atS l 0)) (jnS l)=S at *;obtain ⟨L,f,z⟩:=S
 dsimp only at hj
 have hr:=XA (jnS l) hok.enc;have hlq:=fun x hx=>hok.lq x hx
 have hcl:=hok.len;have hall:=JH (jnS l);have h0:=NU (jnS l);generalize Gp (jnS l)=p at *;generalize jby (jnS l)=b at *;clear hok;generalize jnS l=cs at *;have lo:LoopTr Tryz.prog Am 83 (Bj Tryz.prog 7 0) (S7 cs b ((0:Nat):Int) ((0:Nat):Int)) (.exit 0) ⟨[(4,.t (slI 1 ((b).map (Aa)))),(6,.i ((b).length:Int))],[],50⟩:=by
  have s0:S7 cs b (p 0:Int) ((0:Nat):Int)=S7 cs b ((0:Nat):Int) ((0:Nat):Int):=by rw[h0]
  rw[←s0];refine Ck (by simp) (fun i=>S7 cs b (p i:Int) (i:Int)) cs.length (fun i hi => ?_) ?_
  ·have hf:=hr.st i hi
   have hlt:=M4 hf;have hq:=hlq _ (List.mem_of_getElem? (EP hi));have hcut:=Acr (c:=false) (k:=12) cs i hi;show Rnd _ _ _ _ (S7 cs b (p i:Int) (i:Int)) _ (S7 cs b (p (i+1):Int) ((i+1:Nat):Int));generalize p i=a at *;generalize p (i+1)=e at *;generalize cat cs i=y at *;obtain ⟨body,used,u1,u2,u3⟩:=hf;have hU:=Kp (I:=Am) (hb.drop a) (by rw[List.length_drop];omega)
   have hus:=PS (xs:=b.drop a) (by rw[u1])
   rw[u1,List.length_drop] at hus;simp only at hus;rw[u1] at hU;have hU:Sp Tryz.prog Am 26 _ (.tu [c8 7,.t (bI body),ci (used:Int),ci 0]):=hU;have hD:=Po u2 hq;have hA:=Tb u3 (by omega)
   have hch:=Hd (I:=Am) (c:=false) (k:=12) (j:=12) [y] (by simp) (by omega) (by omega)
   exact rr [pk (AK 39 28 3 9 ((cs).map (Br false 12)) ((cs).length:Int)),pk (As 3 (i:Int) ((cs).length:Int)),pk (AE b a _ rfl (by omega)),po (hU),po (hD),pa,pa,pa,pk (Aj 3 (used:Int) 1),pk (AK 31 5 3 1 ((b).map (Aa)) ((b).length:Int)),pk (Ov 3 ((b).length:Int) (a:Int) ⟨by omega,by omega⟩),pk (Ao 3 (used:Int) (((b).length:Int) - (a:Int))),pk (DG true 12 y),pk (Az 3 (i:Int) 1 ⟨by omega,by omega⟩),pk (hcut),po (hch),pa,pk (hA),pk (Az 3 (i:Int) 1 ⟨by omega,by omega⟩)]
  ·show Rnd _ _ _ _ (S7 cs b (p cs.length:Int) (cs.length:Int)) _ _
   rw[hall];have ha:(b.length:Int)=((b.length:Nat):Int):=rfl;exact rr [pk (AK 39 28 3 9 ((cs).map (Br false 12)) ((cs).length:Int)),pk (Aj 3 ((cs).length:Int) ((cs).length:Int))]
 exact sr 83 [po (hj),pl (lo),pk (AK 31 5 3 1 ((b).map (Aa)) ((b).length:Int)),pk (Ak 3 ((b).length:Int) ((b).length:Int)),po (Cv)]
theorem JG (w:World){v:Value}{l:List Int}(h1:O1 w v l)(hT:Tab w)(hM : ∃ m:Int,w.cell? ⟨0,0,none⟩=some (.int .i64 m)):Calls Tryz.prog 7 #[v] w (Gk w (.bool true)) :=
 QU (S9 l h1.1) hT hM ⟨_,_,rfl,h1.2,rfl⟩
theorem NG {D:List Nat}:okR 1 (D.map Aa):=by
 intro r hr;obtain ⟨x,_,rfl⟩:=List.mem_map.1 hr;exact ⟨rfl,fun y hy=>by simp at hy;subst hy;exact Nat.one_pos⟩
theorem LX {D:List Nat}{i:Nat}(h:i < D.length):Fs (Ad (D.map Aa)) (i*1) 1=some [.b (.lit (.int .u8 ((byt D i:Nat):Int)))]:=OG (sz:=1) (r:=Aa (byt D i)) (Ej h) NG (fo:=0) (n:=1) rfl
theorem LN {D:List Nat}{i:Nat}(h:i < D.length)(x:Nat):Ew (Ad (D.map Aa)) (i*1) [.b (.lit (.int .u8 ((x:Nat):Int)))]=some (Ad ((D.set i x).map Aa)):=by
 have:=O4 (sz:=1) (r:=Aa (byt D i)) (r':=Aa x) (new:=[.b (.lit (.int .u8 ((x:Nat):Int)))]) (Ej (D:=D) h) NG (fo:=0) rfl;rw[←List.map_set] at this;exact this
theorem B8.set {xs:List Nat}(h:B8 xs){i v:Nat}(hv:v < 256):B8 (xs.set i v):=by
 intro x hx;rcases List.mem_or_eq_of_mem_set hx with hx | hx
 ·exact h x hx
 ·rw[hx];exact hv
section
variable {P:Program}
theorem Adl (t:TypeId)(x y:Nat)(hx:x < 256)(hy:y < 256):Be P (.bin .xor t) [l8 (x:Int),l8 (y:Int)] (l8 ((x ^^^ y:Nat):Int)):=By (vs:=[.int .u8 (x:Int),.int .u8 (y:Int)]) fun w=>by
 have:=u8_xor_nat x y hx hy;simp[OpK.run,eqGuard,binOp,Op.intBits]
 simpa [bits] using this
theorem Sb (t:TypeId)(m:Int)(k:Nat)(hm:0≤m)(hk:0 < k) : ∃ i:Nat,i < k∧Be P (.bin .rem t) [li m,li (k:Int)] (li (i:Int)):=by
 obtain ⟨n,rfl⟩:=Int.eq_ofNat_of_zero_le hm;refine ⟨n % k,Nat.mod_lt _ hk,?_⟩;have:=DX (P:=P) t (n:Int) (k:Int) (by omega)
 rw[Int.tmod_eq_emod_of_nonneg (by omega)] at this
 exact this
end
theorem TW (n:Int)(k y:Nat)(hy:y < 256) : ∃ m v:Nat,v < 256∧1+BE (Ce n k) 127=(m:Int)∧m < 256∧Be Tryz.prog (.conv 3 5) [li (1+BE (Ce n k) 127)] (l8 (m:Int))∧Be Tryz.prog (.bin .xor 5) [l8 (y:Int),l8 (m:Int)] (l8 (v:Int)):=by
 have h:=Dh (Ce n k) 127 (by omega) (by omega)
 obtain ⟨m,hm⟩:=Int.eq_ofNat_of_zero_le (show 0≤1+BE (Ce n k) 127 by omega)
 refine ⟨m,y ^^^ m,Nat.xor_lt_two_pow (n:=8) hy (by omega),hm,by omega,?_,Adl _ y m hy (by omega)⟩
 rw[hm];exact Ade m (by omega)
theorem Rx (b:List Nat)(hb:B8 b)(hl:b.length≤2000000):(∃ y:Ch,Sp Tryz.prog Am 16 [.t (bI b)] (.tu [chK true 84 y,ci 0])∧Sp Tryz.prog Am 18 [.t (bI b)] (.tu [chK false 84 y,ci 0]))∨(Sp Tryz.prog Am 16 [.t (bI b)] (.tu [chZ,ci 2])∧Sp Tryz.prog Am 18 [.t (bI b)] (.tu [chZ,ci 2])):=by
 by_cases h : ∃ y,Bb y=(b,0)
 ·obtain ⟨y,hy⟩:=h
  have hq:=Pm (x:=y) (by rw[hy])
  exact .inl ⟨y,Po hy hq,Mk hy hq⟩
 ·exact .inr ⟨JI hb fun y hy=>h ⟨y,hy⟩,Ks hb hl fun y hy=>h ⟨y,hy⟩⟩
theorem YD (y:Ch):Sp Tryz.prog Am 17 [.t (csI true 84 [y]),.t (csI false 84 [y])] (lb true):=Hd (I:=Am) (c:=false) (k:=84) (j:=84) [y] (by simp) (by omega) (by omega)
theorem Rs (b:List Nat)(hb:B8 b)(l:List Int)(hl:l.length≤35184372087808)(n:Int):Sp Tryz.prog Am 4 [.t (bI b),.t (slI 1 (l.map Ag)),ci n] (lb true):=by
 by_cases hlen:b.length > 300
 ·exact sr 93 [pk (AK 31 5 3 1 ((b).map (Aa)) ((b).length:Int)),pk (BN 3 ((b).length:Int) 300),po (Cv)]
 have hch:=SU (I:=Am) l 0 (by omega) hl
 generalize Kc (atS l 0)=x at *;have d12:=Rx b hb (by omega)
 rcases (GR (I:=Am) (c:=false) (k:=12) x (by omega)).2 with ⟨h0,hR⟩ | ⟨h0,_,hR⟩
 ·have hc8:=Ef x
  have hcl:=EF x;have hc0:0 < (Bb x).1.length:=by
   rcases Nat.eq_zero_or_pos (Bb x).1.length with h | h
   ·have e:=GU h0
    rw[List.eq_nil_of_length_eq_zero h] at e;exact absurd e L9
   ·exact h
  generalize (Bb x).1=c at *;have hl63:=Dh n 63 (by omega) (by omega)
  obtain ⟨ix,hix,hrem⟩:=Sb (P:=Tryz.prog) 3 (BE n 63) c.length (by omega) hc0
  obtain ⟨m,v,hv,hm,hm2,hconv,hxor⟩:=TW n 6 (byt c ix) (D0 c ix 256 hc8 (by omega))
  have hxor:Be Tryz.prog (.bin .xor 5) [l8 (((byt c ix):Nat):Int),l8 (m:Int)] (l8 ((v:Nat):Int)):=hxor;have d34:=Rx (c.set ix v) (hc8.set hv) (by rw[List.length_set];omega)
  rcases d12 with ⟨y,d1,d2⟩ | ⟨d1,d2⟩ <;> rcases d34 with ⟨t,d3,d4⟩ | ⟨d3,d4⟩
  ·exact sr 93 [pk (AK 31 5 3 1 ((b).map (Aa)) ((b).length:Int)),pk (Ao 3 ((b).length:Int) 300),po (d1),po (d2),pa,pa,pk (DG true 84 y),pk (DG false 84 y),po (YD y),pa,po (hch),pon (hR),pk (BN 3 ((c).length:Nat) 0),pk (CN 3 n 63),pk (hrem),⟨.ix (ix:Int) ix ((c).length),⟨rfl,hix⟩⟩,⟨.part (Ad ((c).map Aa)) (ix*1) 1 [.b (.lit (.int .u8 (((byt c ix):Nat):Int)))],(LX (D:=c) hix)⟩,pk (Ff 3 n 6),pk (CN 3 (Ce n 6) 127),pk (Az 3 1 (BE (Ce n 6) 127) ⟨by omega,by omega⟩),pk (hconv),pk (hxor),⟨.ix (ix:Int) ix ((c).length),⟨rfl,hix⟩⟩,⟨.upd (Ad ((c).map Aa)) (ix*1) [.b (.lit (.int .u8 ((v:Nat):Int)))] (Ad (((c).set (ix) (v)).map Aa)),(LN (D:=c) hix (v))⟩,pm (AH (I:=Am) (t:=11) (k:=37) (E:=[(7,.p 9 0),(9,.p 17 0)]) (B:=[(9,some ⟨28,none,[.i y.kind,.i y.node,.b (.it (fF true 84 y.q)),.i y.fst,.i y.nxt,.i y.cost]⟩),(17,some ⟨28,none,[.i y.kind,.i y.node,.b (.it (fF false 84 y.q)),.i y.fst,.i y.nxt,.i y.cost]⟩)]) (nx:=62) (T:=5) (sz:=1) (n:=((c).length)) ((c.set (ix) (v)).map Aa) rfl (by simp) AU rfl),po (d3),po (d4),pa,pa,pk (DG true 84 t),pk (DG false 84 t),po (YD t),po (Cv)]
  ·exact sr 93 [pk (AK 31 5 3 1 ((b).map (Aa)) ((b).length:Int)),pk (Ao 3 ((b).length:Int) 300),po (d1),po (d2),pa,pa,pk (DG true 84 y),pk (DG false 84 y),po (YD y),pa,po (hch),pon (hR),pk (BN 3 ((c).length:Nat) 0),pk (CN 3 n 63),pk (hrem),⟨.ix (ix:Int) ix ((c).length),⟨rfl,hix⟩⟩,⟨.part (Ad ((c).map Aa)) (ix*1) 1 [.b (.lit (.int .u8 (((byt c ix):Nat):Int)))],(LX (D:=c) hix)⟩,pk (Ff 3 n 6),pk (CN 3 (Ce n 6) 127),pk (Az 3 1 (BE (Ce n 6) 127) ⟨by omega,by omega⟩),pk (hconv),pk (hxor),⟨.ix (ix:Int) ix ((c).length),⟨rfl,hix⟩⟩,⟨.upd (Ad ((c).map Aa)) (ix*1) [.b (.lit (.int .u8 ((v:Nat):Int)))] (Ad (((c).set (ix) (v)).map Aa)),(LN (D:=c) hix (v))⟩,pm (AH (I:=Am) (t:=11) (k:=37) (E:=[(7,.p 9 0),(9,.p 17 0)]) (B:=[(9,some ⟨28,none,[.i y.kind,.i y.node,.b (.it (fF true 84 y.q)),.i y.fst,.i y.nxt,.i y.cost]⟩),(17,some ⟨28,none,[.i y.kind,.i y.node,.b (.it (fF false 84 y.q)),.i y.fst,.i y.nxt,.i y.cost]⟩)]) (nx:=62) (T:=5) (sz:=1) (n:=((c).length)) ((c.set (ix) (v)).map Aa) rfl (by simp) AU rfl),po (d3),po (d4),pa,pa,po (Cv)]
  ·exact sr 93 [pk (AK 31 5 3 1 ((b).map (Aa)) ((b).length:Int)),pk (Ao 3 ((b).length:Int) 300),po (d1),po (d2),pa,pa,po (hch),pon (hR),pk (BN 3 ((c).length:Nat) 0),pk (CN 3 n 63),pk (hrem),⟨.ix (ix:Int) ix ((c).length),⟨rfl,hix⟩⟩,⟨.part (Ad ((c).map Aa)) (ix*1) 1 [.b (.lit (.int .u8 (((byt c ix):Nat):Int)))],(LX (D:=c) hix)⟩,pk (Ff 3 n 6),pk (CN 3 (Ce n 6) 127),pk (Az 3 1 (BE (Ce n 6) 127) ⟨by omega,by omega⟩),pk (hconv),pk (hxor),⟨.ix (ix:Int) ix ((c).length),⟨rfl,hix⟩⟩,⟨.upd (Ad ((c).map Aa)) (ix*1) [.b (.lit (.int .u8 ((v:Nat):Int)))] (Ad (((c).set (ix) (v)).map Aa)),(LN (D:=c) hix (v))⟩,pm (AH (I:=Am) (t:=11) (k:=37) (E:=[(7,.p 9 0),(9,.p 17 0)]) (B:=[(9,some ⟨28,none,[.i 0,.i 0,.o false,.z,.o false,.z,.i 0,.i 0,.i 0]⟩),(17,some ⟨28,none,[.i 0,.i 0,.o false,.z,.o false,.z,.i 0,.i 0,.i 0]⟩)]) (nx:=62) (T:=5) (sz:=1) (n:=((c).length)) ((c.set (ix) (v)).map Aa) rfl (by simp) AU rfl),po (d3),po (d4),pa,pa,pk (DG true 84 t),pk (DG false 84 t),po (YD t),po (Cv)]
  ·exact sr 93 [pk (AK 31 5 3 1 ((b).map (Aa)) ((b).length:Int)),pk (Ao 3 ((b).length:Int) 300),po (d1),po (d2),pa,pa,po (hch),pon (hR),pk (BN 3 ((c).length:Nat) 0),pk (CN 3 n 63),pk (hrem),⟨.ix (ix:Int) ix ((c).length),⟨rfl,hix⟩⟩,⟨.part (Ad ((c).map Aa)) (ix*1) 1 [.b (.lit (.int .u8 (((byt c ix):Nat):Int)))],(LX (D:=c) hix)⟩,pk (Ff 3 n 6),pk (CN 3 (Ce n 6) 127),pk (Az 3 1 (BE (Ce n 6) 127) ⟨by omega,by omega⟩),pk (hconv),pk (hxor),⟨.ix (ix:Int) ix ((c).length),⟨rfl,hix⟩⟩,⟨.upd (Ad ((c).map Aa)) (ix*1) [.b (.lit (.int .u8 ((v:Nat):Int)))] (Ad (((c).set (ix) (v)).map Aa)),(LN (D:=c) hix (v))⟩,pm (AH (I:=Am) (t:=11) (k:=37) (E:=[(7,.p 9 0),(9,.p 17 0)]) (B:=[(9,some ⟨28,none,[.i 0,.i 0,.o false,.z,.o false,.z,.i 0,.i 0,.i 0]⟩),(17,some ⟨28,none,[.i 0,.i 0,.o false,.z,.o false,.z,.i 0,.i 0,.i 0]⟩)]) (nx:=62) (T:=5) (sz:=1) (n:=((c).length)) ((c.set (ix) (v)).map Aa) rfl (by simp) AU rfl),po (d3),po (d4),pa,pa,po (Cv)]
 ·have d3:=(JI (b:=[]) (fun z hz=>by cases hz) (fun y=>L9)).wk (args':=[.one (.z)]) ⟨XLe.one H7,trivial⟩
  have d4:=(Ks (I:=Am) (b:=[]) (fun z hz=>by cases hz) (by simp) (fun y=>L9)).wk (args':=[.one (.z)]) ⟨XLe.one H7,trivial⟩
  generalize (Bb x).2=r at *;rcases d12 with ⟨y,d1,d2⟩ | ⟨d1,d2⟩
  ·exact sr 93 [pk (AK 31 5 3 1 ((b).map (Aa)) ((b).length:Int)),pk (Ao 3 ((b).length:Int) 300),po (d1),po (d2),pa,pa,pk (DG true 84 y),pk (DG false 84 y),po (YD y),pa,po (hch),po (hR),pa,pa,po (d3),po (d4),pa,pa,po (Cv)]
  ·exact sr 93 [pk (AK 31 5 3 1 ((b).map (Aa)) ((b).length:Int)),pk (Ao 3 ((b).length:Int) 300),po (d1),po (d2),pa,pa,po (hch),po (hR),pa,pa,po (d3),po (d4),pa,pa,po (Cv)]
theorem Jc (w:World){u v:Value}{b:List Nat}{l:List Int}(h1:ABy w u b)(h2:O1 w v l)(n:Int)(hn:(Lit.int .i64 n).wf=true)(hT:Tab w)(hM : ∃ m:Int,w.cell? ⟨0,0,none⟩=some (.int .i64 m)):Calls Tryz.prog 4 #[u,v,.int .i64 n] w (Gk w (.bool true)) :=
 QU (Rs b h1.1 l h2.1 n) hT hM ⟨_,_,rfl,h1.2,_,_,rfl,h2.2,_,_,rfl,rfl,rfl⟩
theorem AbW {b:List Nat}{a:Nat}{y:Ch}{e:Nat}(h:jfr b a y e):Lq y.q 84:=by
 obtain ⟨body,used,_,h2,_⟩:=h;exact Pm (by rw[h2])
theorem Ky (b:List Nat)(hb:B8 b)(hl:b.length≤100000000) : ∃ (cs:List Ch) (u:Nat),Sp Tryz.prog Am 24 [.t (bI b)] (.tu [.t (csI true 84 cs),ci (u:Int)])∧Sp Tryz.prog Am 25 [.t (bI b)] (.tu [.t (csI false 84 cs),ci (u:Int)])∧Sp Tryz.prog Am 17 [.t (csI true 84 cs),.t (csI false 84 cs)] (lb true):=by
 obtain ⟨cs,p,h0,hj⟩:=AcX b;have hk : ∀ i,i < cs.length→Lq (cat cs i).q 84:=fun i hi=>AbW (hj.st i hi)
 have hm:=hj.mono h0 cs.length (Nat.le_refl _);exact ⟨cs,p cs.length,Se b hb (by omega) hj h0 hk,UR b hb (by omega) hj h0 hk,Hd cs (by omega) (by omega) (by omega)⟩
theorem UW (l:List Int)(hl:l.length≤35184372087808)(n:Int)(tl:List Nat)(ht:B8 tl):Sp Tryz.prog Am 6 [.t (slI 1 (l.map Ag)),ci n,.t (bI tl)] (lb true):=by
 have hj:=Pk (I:=Am) l hl;have hbl:=Pq (S3 l) (Nat.le_refl _);have hb:=KD (jnS l);generalize trA (B9 (atS l 0)) (jnS l)=S at *;obtain ⟨L,f,z⟩:=S
 dsimp only at hj
 generalize jby (jnS l)=b at *;generalize jnS l=cs at *;by_cases hlen:tl.length > 200
 ·exact sr 104 [po (hj),pk (AK 31 5 3 1 ((tl).map (Aa)) ((tl).length:Int)),pk (BN 3 ((tl).length:Int) 200),po (Cv)]
 have hln:=Dh n 1023 (by omega) (by omega)
 obtain ⟨kk,hkk,hrem1⟩:=Sb (P:=Tryz.prog) 3 (BE n 1023) (b.length+1) (by omega) (by omega)
 obtain ⟨ys,p,r1,r2,c1⟩:=Ky (b.take kk++tl) ((hb.take kk).app ht) (by rw[List.length_append,List.length_take];omega)
 by_cases h0:0 < b.length
 ·obtain ⟨ix,hix,hrem⟩:=Sb (P:=Tryz.prog) 3 (BE n 1023) b.length (by omega) h0
  obtain ⟨m,v,hv,hm,hm2,hconv,hxor⟩:=TW n 10 (byt b ix) (D0 b ix 256 hb (by omega))
  have hxor:Be Tryz.prog (.bin .xor 5) [l8 (((byt b ix):Nat):Int),l8 (m:Int)] (l8 ((v:Nat):Int)):=hxor;obtain ⟨zs,q,r3,r4,c2⟩:=Ky (b.set ix v) (hb.set hv) (by rw[List.length_set];omega)
  exact sr 104 [po (hj),pk (AK 31 5 3 1 ((tl).map (Aa)) ((tl).length:Int)),pk (Ao 3 ((tl).length:Int) 200),pk (CN 3 n 1023),pk (AK 31 5 3 1 ((b).map (Aa)) ((b).length:Int)),pk (Az 3 ((b).length:Int) 1 ⟨by omega,by omega⟩),pk (hrem1),pk (PF b kk _ rfl (by omega)),⟨.src 1 (bI (b.take kk)) (((b.take kk)).map Aa).length (((b.take kk)).map Aa).flatten,BG AU (AO _)⟩,⟨.ap 0 ((((b.take kk)).map Aa).length) 1,⟨by simp only[List.length_map,List.length_take] <;> omega,by simp only[List.length_map,List.length_take,maxLen] <;> omega⟩⟩,⟨.src 1 (bI tl) ((tl).map Aa).length ((tl).map Aa).flatten,BG AU (AO _)⟩,⟨.ap ((((b.take kk)).map Aa).length) (((tl).map Aa).length) 1,⟨by simp only[List.length_map,List.length_take] <;> omega,by simp only[List.length_map,List.length_take,maxLen] <;> omega⟩⟩,pm ((show Leads Am _ ⟨[(11,.s 26),(1,.i n),(8,.t (slI 1 ((b).map (Aa))))],[(26,some ⟨5,some (1,(((b.take kk)).map Aa).length+((tl).map Aa).length),((((b.take kk)).map Aa).flatten.map It.b)++(((tl).map Aa).flatten.map It.b)⟩)],28⟩ ⟨[(11,.s 26),(1,.i n),(8,.t (slI 1 ((b).map (Aa))))],[(26,some ⟨5,some (1,((b.take kk)++tl).length),Ad (((b.take kk)++tl).map Aa)⟩)],28⟩ from AN [] ⟨rfl,TVle.refl,rfl,TVle.refl,rfl,TVle.refl,trivial⟩ ⟨rfl,rfl,(congrArg (fun m=>some (1,m)) (show (((b.take kk)).map Aa).length+((tl).map Aa).length=((b.take kk)++tl).length by simp only[List.length_append,List.length_map] <;> omega)),ILe.eq (show ((((b.take kk)).map Aa).flatten.map It.b)++(((tl).map Aa).flatten.map It.b)=Ad (((b.take kk)++tl).map Aa) from by simp[Ad]),trivial⟩ (hnp:=⟨fun _=>BM (Ar _) (Ar _),trivial⟩))),pm (AH (I:=Am) (t:=11) (k:=26) (E:=[(1,.i n),(8,.t (slI 1 ((b).map (Aa))))]) (B:=[]) (nx:=28) (T:=5) (sz:=1) (n:=(((b.take kk)++tl).length)) ((((b.take kk)++tl)).map Aa) rfl (by simp) AU rfl),⟨.src 1 (bI b) ((b).map Aa).length ((b).map Aa).flatten,BG AU (AO _)⟩,⟨.ap 0 (((b).map Aa).length) 1,⟨by simp only[List.length_map,List.length_take] <;> omega,by simp only[List.length_map,List.length_take,maxLen] <;> omega⟩⟩,pm ((show Leads Am _ ⟨[(12,.s 29),(1,.i n),(11,.t (slI 1 ((((b.take kk)++tl)).map (Aa))))],[(29,some ⟨5,some (1,((b).map Aa).length),((b).map Aa).flatten.map It.b⟩)],31⟩ ⟨[(12,.s 29),(1,.i n),(11,.t (slI 1 ((((b.take kk)++tl)).map (Aa))))],[(29,some ⟨5,some (1,(b).length),Ad ((b).map Aa)⟩)],31⟩ from AN [] ⟨rfl,TVle.refl,rfl,TVle.refl,rfl,TVle.refl,trivial⟩ ⟨rfl,rfl,(congrArg (fun m=>some (1,m)) (show ((b).map Aa).length=(b).length by simp only[List.length_map])),ILe.eq (show ((b).map Aa).flatten.map It.b=Ad ((b).map Aa) from by simp[Ad]),trivial⟩ (hnp:=⟨fun _=>Ar _,trivial⟩))),pk (BN 3 ((b).length:Nat) 0),pk (CN 3 n 1023),pk (hrem),⟨.ix (ix:Int) ix ((b).length),⟨rfl,hix⟩⟩,⟨.part (Ad ((b).map Aa)) (ix*1) 1 [.b (.lit (.int .u8 (((byt b ix):Nat):Int)))],(LX (D:=b) hix)⟩,pk (Ff 3 n 10),pk (CN 3 (Ce n 10) 127),pk (Az 3 1 (BE (Ce n 10) 127) ⟨by omega,by omega⟩),pk (hconv),pk (hxor),⟨.ix (ix:Int) ix ((b).length),⟨rfl,hix⟩⟩,⟨.upd (Ad ((b).map Aa)) (ix*1) [.b (.lit (.int .u8 ((v:Nat):Int)))] (Ad (((b).set (ix) (v)).map Aa)),(LN (D:=b) hix (v))⟩,pm (AH (I:=Am) (t:=12) (k:=29) (E:=[(11,.t (slI 1 ((((b.take kk)++tl)).map (Aa))))]) (B:=[]) (nx:=50) (T:=5) (sz:=1) (n:=((b).length)) ((b.set (ix) (v)).map Aa) rfl (by simp) AU rfl),po (r1),po (r2),po (r3),po (r4),pk (Ak 3 (p:Int) (p:Int)),pk (Ak 3 (q:Int) (q:Int)),po (c1),po (c2),po (Cv)]
 ·obtain ⟨zs,q,r3,r4,c2⟩:=Ky b hb (by omega)
  have hix:True:=trivial;exact sr 104 [po (hj),pk (AK 31 5 3 1 ((tl).map (Aa)) ((tl).length:Int)),pk (Ao 3 ((tl).length:Int) 200),pk (CN 3 n 1023),pk (AK 31 5 3 1 ((b).map (Aa)) ((b).length:Int)),pk (Az 3 ((b).length:Int) 1 ⟨by omega,by omega⟩),pk (hrem1),pk (PF b kk _ rfl (by omega)),⟨.src 1 (bI (b.take kk)) (((b.take kk)).map Aa).length (((b.take kk)).map Aa).flatten,BG AU (AO _)⟩,⟨.ap 0 ((((b.take kk)).map Aa).length) 1,⟨by simp only[List.length_map,List.length_take] <;> omega,by simp only[List.length_map,List.length_take,maxLen] <;> omega⟩⟩,⟨.src 1 (bI tl) ((tl).map Aa).length ((tl).map Aa).flatten,BG AU (AO _)⟩,⟨.ap ((((b.take kk)).map Aa).length) (((tl).map Aa).length) 1,⟨by simp only[List.length_map,List.length_take] <;> omega,by simp only[List.length_map,List.length_take,maxLen] <;> omega⟩⟩,pm ((show Leads Am _ ⟨[(11,.s 26),(1,.i n),(8,.t (slI 1 ((b).map (Aa))))],[(26,some ⟨5,some (1,(((b.take kk)).map Aa).length+((tl).map Aa).length),((((b.take kk)).map Aa).flatten.map It.b)++(((tl).map Aa).flatten.map It.b)⟩)],28⟩ ⟨[(11,.s 26),(1,.i n),(8,.t (slI 1 ((b).map (Aa))))],[(26,some ⟨5,some (1,((b.take kk)++tl).length),Ad (((b.take kk)++tl).map Aa)⟩)],28⟩ from AN [] ⟨rfl,TVle.refl,rfl,TVle.refl,rfl,TVle.refl,trivial⟩ ⟨rfl,rfl,(congrArg (fun m=>some (1,m)) (show (((b.take kk)).map Aa).length+((tl).map Aa).length=((b.take kk)++tl).length by simp only[List.length_append,List.length_map] <;> omega)),ILe.eq (show ((((b.take kk)).map Aa).flatten.map It.b)++(((tl).map Aa).flatten.map It.b)=Ad (((b.take kk)++tl).map Aa) from by simp[Ad]),trivial⟩ (hnp:=⟨fun _=>BM (Ar _) (Ar _),trivial⟩))),pm (AH (I:=Am) (t:=11) (k:=26) (E:=[(1,.i n),(8,.t (slI 1 ((b).map (Aa))))]) (B:=[]) (nx:=28) (T:=5) (sz:=1) (n:=(((b.take kk)++tl).length)) ((((b.take kk)++tl)).map Aa) rfl (by simp) AU rfl),⟨.src 1 (bI b) ((b).map Aa).length ((b).map Aa).flatten,BG AU (AO _)⟩,⟨.ap 0 (((b).map Aa).length) 1,⟨by simp only[List.length_map,List.length_take] <;> omega,by simp only[List.length_map,List.length_take,maxLen] <;> omega⟩⟩,pm ((show Leads Am _ ⟨[(12,.s 29),(1,.i n),(11,.t (slI 1 ((((b.take kk)++tl)).map (Aa))))],[(29,some ⟨5,some (1,((b).map Aa).length),((b).map Aa).flatten.map It.b⟩)],31⟩ ⟨[(12,.s 29),(1,.i n),(11,.t (slI 1 ((((b.take kk)++tl)).map (Aa))))],[(29,some ⟨5,some (1,(b).length),Ad ((b).map Aa)⟩)],31⟩ from AN [] ⟨rfl,TVle.refl,rfl,TVle.refl,rfl,TVle.refl,trivial⟩ ⟨rfl,rfl,(congrArg (fun m=>some (1,m)) (show ((b).map Aa).length=(b).length by simp only[List.length_map])),ILe.eq (show ((b).map Aa).flatten.map It.b=Ad ((b).map Aa) from by simp[Ad]),trivial⟩ (hnp:=⟨fun _=>Ar _,trivial⟩))),pk (Ao 3 ((b).length:Nat) 0),pm (AH (I:=Am) (t:=12) (k:=29) (E:=[(11,.t (slI 1 ((((b.take kk)++tl)).map (Aa)))),(47,.o false)]) (B:=[]) (nx:=34) (T:=5) (sz:=1) (n:=((b).length)) ((b).map Aa) rfl (by simp) AU rfl),po (r1),po (r2),po (r3),po (r4),pk (Ak 3 (p:Int) (p:Int)),pk (Ak 3 (q:Int) (q:Int)),po (c1),po (c2),po (Cv)]
theorem KB (w:World){u v:Value}{l:List Int}(h1:O1 w u l)(n:Int)(hn:(Lit.int .i64 n).wf=true){tl:List Nat}(h2:ABy w v tl)(hT:Tab w)(hM : ∃ m:Int,w.cell? ⟨0,0,none⟩=some (.int .i64 m)):Calls Tryz.prog 6 #[u,.int .i64 n,v] w (Gk w (.bool true)) :=
 QU (UW l h1.1 n tl h2.1) hT hM ⟨_,_,rfl,h1.2,_,_,rfl,rfl,_,_,rfl,h2.2,rfl⟩
end Go.Proofs.YtdgbealknnmkoaaGreatDoor
