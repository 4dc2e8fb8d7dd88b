/- Texts of one proof, put together by a program: each lemma is proved for all values of its variables, under the premises that it states. -/
import Derived.Test.YtdgbealknnmkoaaGreatDoorP31095961
set_option linter.unusedVariables false
set_option linter.unusedSimpArgs false
namespace Go.Proofs.YtdgbealknnmkoaaGreatDoor
open Go Go.RowKit
section
variable {I:WInv}{k:Nat}
def Nh (k:Nat)(b:List Nat)(a:Int)(L:List Ch):Go.Proofs.YtdgbealknnmkoaaGreatDoor.St:=⟨[(0,.t (slI 1 ((b).map (Aa)))),(4,.s 40),(5,.i a)],[(40,some ⟨28,some (9,(L).length),Ad ((L).map (Br false k))⟩)],50⟩
def AcN (k:Nat)(L:List Ch)(a:Int):Go.Proofs.YtdgbealknnmkoaaGreatDoor.St:=⟨[(2,.s 40),(3,.i a)],[(40,some ⟨28,some (9,(L).length),Ad ((L).map (Br false k))⟩)],50⟩
theorem WJ (b:List Nat)(hb:B8 b)(hl:b.length≤1000000000)(a:Nat)(L:List Ch)(hL:L.length≤1000000000)(y:Ch)(e:Nat)(h:jfr b a y e)(hk:Lq y.q k) :
  Rnd Tryz.prog I 45 (Bj Tryz.prog 25 0) (Nh k b (a:Int) L) .normal (Nh k b (e:Int) (L++[y])):=by
 have hlt:=M4 h;obtain ⟨body,used,h1,h2,h3⟩:=h;have hU:=AcC (I:=I) (hb.drop a) (by rw[List.length_drop];omega)
 rw[h1] at hU;have hU:Sp Tryz.prog I 65 _ (.tu [c8 7,.t (bI body),ci (used:Int),cb true]):=hU;have hD:=Mk (I:=I) h2 hk;have hA:=Tb h3 (by omega)
 exact Rnd.nam [(40,82)] (show Rnd _ _ _ _ _ _ ⟨[(0,.t (slI 1 ((b).map (Aa)))),(4,.s 82),(5,.i (e:Int))],[(82,some ⟨28,some (9,(L).length+1),(Ad ((L).map (Br false k)))++([.i y.kind,.i y.node,.b (.it (fF false k y.q)),.i y.fst,.i y.nxt,.i y.cost])⟩)],88⟩ from rr [pk (AE b a _ rfl (by omega)),po (hU),pa,pa,po (hD),pa,⟨.ap ((L).length) 1 104,⟨by omega,by simp[maxLen];omega⟩⟩,pk (hA)]) (t:=⟨[(0,.t (slI 1 ((b).map (Aa)))),(4,.s 40),(5,.i (e:Int))],[(40,some ⟨28,some (9,(L++[y]).length),Ad (((L++[y])).map (Br false k))⟩)],50⟩) ⟨rfl,TVle.refl,rfl,TVle.refl,rfl,TVle.refl,trivial⟩ ⟨rfl,rfl,(congrArg (fun m=>some (9,m)) (show (L).length+1=(L++[y]).length by simp)),ILe.eq (show (Ad ((L).map (Br false k)))++([.i y.kind,.i y.node,.b (.it (fF false k y.q)),.i y.fst,.i y.nxt,.i y.cost])=Ad (((L++[y])).map (Br false k)) from by simp[Ad]),trivial⟩
theorem Zi (xs : List Nat) : (AP xs).2.1.length ≤ 1048576 := by
 unfold AP;split
 ·simp
 ·split
  ·simp
  ·split
   ·simp
   ·split
    ·simp
    ·split
     ·simp only[List.length_take];omega
     ·simp
theorem RU (b:List Nat)(hb:B8 b)(hl:b.length≤1000000000)(a:Nat)(ha:a≤b.length)(L:List Ch)(h : ∀ y e,¬ jfr b a y e) :
  Rnd Tryz.prog I 45 (Bj Tryz.prog 25 0) (Nh k b (a:Int) L) .ret (AcN k L (a:Int)):=by
 have hU:=AcC (I:=I) (hb.drop a) (by rw[List.length_drop];omega)
 have hb8:=Wc (hb.drop a);have hj : ∀ body used,AP (b.drop a)=(7,body,used,0) → ∀ y,Bb y≠(body,0):=fun body used h1 y h2=>h y _ ⟨body,used,h1,h2,rfl⟩
 have hbl:=Zi (b.drop a);generalize AP (b.drop a)=r at *;obtain ⟨kd,body,used,o⟩:=r;simp only at hU hb8 hbl;by_cases ho:o=0
 ·subst ho
  have hU:Sp Tryz.prog I 65 _ (.tu [c8 (kd:Int),.t (bI body),ci (used:Int),cb true]):=hU;by_cases hk7:kd=7
  ·subst hk7
   have hU:Sp Tryz.prog I 65 _ (.tu [c8 7,.t (bI body),ci (used:Int),cb true]):=hU;have hD:=Ks (I:=I) hb8 (by omega) (hj body used rfl)
   exact Rnd.nam [] (show Rnd _ _ _ _ _ _ ⟨[(2,.s 40),(3,.i (a:Int))],[(40,some ⟨28,some (9,(L).length),Ad ((L).map (Br false k))⟩)],83⟩ from rr [pk (AE b a _ rfl (by omega)),po (hU),pa,pa,po (hD),pa]) (t:=⟨[(2,.s 40),(3,.i (a:Int))],[(40,some ⟨28,some (9,(L).length),Ad ((L).map (Br false k))⟩)],50⟩) ⟨rfl,TVle.refl,rfl,TVle.refl,trivial⟩ ⟨rfl,rfl,rfl,ILe.refl,trivial⟩
  ·have hq:(!decide ((kd:Int)=7))=true:=by rw[decide_eq_false (by omega)];rfl
   exact Rnd.nam [] (show Rnd _ _ _ _ _ _ ⟨[(2,.s 40),(3,.i (a:Int))],[(40,some ⟨28,some (9,(L).length),Ad ((L).map (Br false k))⟩)],73⟩ from rr [pk (AE b a _ rfl (by omega)),po (hU),pa,pk (PI 5 (kd:Int) 7 true hq)]) (t:=⟨[(2,.s 40),(3,.i (a:Int))],[(40,some ⟨28,some (9,(L).length),Ad ((L).map (Br false k))⟩)],50⟩) ⟨rfl,TVle.refl,rfl,TVle.refl,trivial⟩ ⟨rfl,rfl,rfl,ILe.refl,trivial⟩
 ·rw[decide_eq_false ho] at hU
  exact Rnd.nam [] (show Rnd _ _ _ _ _ _ ⟨[(2,.s 40),(3,.i (a:Int))],[(40,some ⟨28,some (9,(L).length),Ad ((L).map (Br false k))⟩)],73⟩ from rr [pk (AE b a _ rfl (by omega)),po (hU),pa]) (t:=⟨[(2,.s 40),(3,.i (a:Int))],[(40,some ⟨28,some (9,(L).length),Ad ((L).map (Br false k))⟩)],50⟩) ⟨rfl,TVle.refl,rfl,TVle.refl,trivial⟩ ⟨rfl,rfl,rfl,ILe.refl,trivial⟩
theorem RV (b:List Nat)(hb:B8 b)(hl:b.length≤1000000000){cs:List Ch}{p:Nat→Nat}(hj:Jr b cs p)(h0:p 0=0)(hk : ∀ i,i < cs.length→Lq (cat cs i).q k) :
  LoopTr Tryz.prog I 45 (Bj Tryz.prog 25 0) (Nh k b 0 []) .ret (AcN k cs (p cs.length:Int)):=by
 have hm:=hj.mono h0;have s0:Nh k b (p 0:Int) (cs.take 0)=Nh k b 0 []:=by rw[h0];rfl
 rw[←s0];refine Ck (by simp) (fun i=>Nh k b (p i:Int) (cs.take i)) cs.length (fun i hi => ?_) ?_
 ·have h1:=hm i (by omega)
  have h2:=hm cs.length (Nat.le_refl _);show Rnd _ _ _ _ _ _ (Nh k b (p (i+1):Int) (cs.take (i+1)));rw[GH hi];exact WJ b hb hl (p i) (cs.take i) (by rw[List.length_take];omega) (cat cs i) _ (hj.st i hi) (hk i hi)
 ·show Rnd _ _ _ _ (Nh k b (p cs.length:Int) (cs.take cs.length)) _ _
  rw[List.take_length];exact RU b hb hl (p cs.length) (hm _ (Nat.le_refl _)).2 cs hj.en
theorem UR (b:List Nat)(hb:B8 b)(hl:b.length≤1000000000){cs:List Ch}{p:Nat→Nat}(hj:Jr b cs p)(h0:p 0=0)(hk : ∀ i,i < cs.length→Lq (cat cs i).q k) :
  Sp Tryz.prog I 25 [.t (bI b)] (.tu [.t (csI false k cs),ci (p cs.length:Int)]):=by
 have lo:=RV (I:=I) b hb hl hj h0 hk;generalize p cs.length=u at *;have lo1:=lo.post (AH (t:=2) (k:=40) (E:=[(3,li (u:Int))]) (B:=[]) (nx:=50) (T:=28) (sz:=9) (n:=cs.length) (cs.map (Br false k)) rfl (by simp) RX rfl)
 have lo2:=LoopTr.pre (show Leads I 45 ⟨[(4,BF (.slice none 0 0)),(0,.t (bI b)),(5,li 0)],[],49⟩ (Nh k b 0 []) from (EC (t:=4) (k:=40) 28 9 rfl rfl rfl).trans (FP ⟨rfl,rfl,rfl,trivial⟩ ⟨rfl,trivial⟩)) lo1;exact sr 45 [pl (lo2)]
end
theorem VL (q:Rat):FF q q=0:=by unfold FF;simp
theorem DG (c:Bool)(k:Nat)(x:Ch):Be Tryz.prog (.bs 39 1 [0]) [.cv (chK c k x)] (tit (csI c k [x])) :=
 Adf (e:=28) (cts:=[chK c k x]) (z:=[.int .i64 0,.int .i64 0,.bool false,.slice none 0 0,.bool false,.slice none 0 0,.int .i64 0,.int .i64 0,.int .i64 0]) (bytes:=104) (by kernel_rfl) (by decide) (by kernel_rfl) rfl rfl (by intro r hr;simp at hr;subst hr;rfl)
section
variable {I:WInv}{c c':Bool}{k j:Nat}{q:Rat}
theorem Zy:Sp Tryz.prog I 55 [fc true k q,fc true j q] (lb true):=by
 have h:Sp Tryz.prog I 55 [.ag (ik k q.num++ik k (q.den:Int)),.ag (ik j q.num++ik j (q.den:Int))] (lb true):=sr 17 [po (WI (I:=I) (k:=k) (j:=j) (a:=q.num) (b:=q.num) true (decide_eq_true rfl)),po (WI (I:=I) (k:=k) (j:=j) (a:=(q.den:Int)) (b:=(q.den:Int)) true (decide_eq_true rfl))];exact h.wk ⟨C3,C3,trivial⟩
theorem Adv {p:Rat}(hk:k≤100)(hj:j≤100):Sp Tryz.prog I 74 [fc c k p,fc c' j q] (li (FF p q)):=(Acs (c:=c) (c':=c')).wk ⟨GB hk,GB hj,trivial⟩
theorem Ab3 (x:Ch)(hk:k≤100)(hj:j≤100):Sp Tryz.prog I 54 [chK c k x,chK c' j x] (lb true):=sr 46 [pk (Ba 3 x.kind x.kind true (decide_eq_true rfl)),pk (Ba 3 x.node x.node true (decide_eq_true rfl)),pk (Ba 3 x.fst x.fst true (decide_eq_true rfl)),pk (Ba 3 x.nxt x.nxt true (decide_eq_true rfl)),pk (Ba 3 x.cost x.cost true (decide_eq_true rfl)),po ((Adv (I:=I) (c:=c) (c':=c') (p:=x.q) (q:=x.q) hk hj)),pk (Ba 3 (FF x.q x.q) 0 true (decide_eq_true (VL x.q)))]
def cst (k:Nat)(c:Bool)(j:Nat)(cs:List Ch)(i:Int):Go.Proofs.YtdgbealknnmkoaaGreatDoor.St:=⟨[(0,.t (slI 9 ((cs).map (Br true k)))),(1,.t (slI 9 ((cs).map (Br c j)))),(5,.i i)],[],50⟩
theorem Hd (cs:List Ch)(hl:cs.length≤1000000000)(hk:k≤100)(hj:j≤100):Sp Tryz.prog I 17 [.t (csI true k cs),.t (csI c j cs)] (lb true):=by
 have lo:LoopTr Tryz.prog I 50 (Bj Tryz.prog 17 0) (cst k c j cs ((0:Nat):Int)) (.exit 0) ⟨[],[],50⟩:=by
  refine Ck (by simp) (fun i=>cst k c j cs (i:Int)) cs.length (fun i hi => ?_) ?_
  ·have hs:=Ab3 (I:=I) (c:=true) (c':=c) (cat cs i) hk hj
   have hc:=Bx (I:=I) (c:=c) (k:=j) (p:=(cat cs i).q) (by omega)
   by_cases h:(cat cs i).kind=1
   ·exact rr [pk (AK 39 28 3 9 ((cs).map (Br true k)) ((cs).length:Int)),pk (As 3 (i:Int) ((cs).length:Int)),pk (Ah 39 28 9 ((cs).map (Br true k)) i (i:Int) ((Br true k) (cat cs i)) (Eh hi)),pk (Ah 39 28 9 ((cs).map (Br c j)) i (i:Int) ((Br c j) (cat cs i)) (Eh hi)),po (hs),pa,pk (Ah 39 28 9 ((cs).map (Br true k)) i (i:Int) ((Br true k) (cat cs i)) (Eh hi)),pk (Ak 3 ((cat cs i).kind) 1),pk (Ah 39 28 9 ((cs).map (Br true k)) i (i:Int) ((Br true k) (cat cs i)) (Eh hi)),pk (Ah 39 28 9 ((cs).map (Br c j)) i (i:Int) ((Br c j) (cat cs i)) (Eh hi)),po (hc),po (Zy (I:=I) (k:=k) (j:=j) (q:=(cat cs i).q)),pa,pk (Az 3 (i:Int) 1 ⟨by omega,by omega⟩)]
   ·exact rr [pk (AK 39 28 3 9 ((cs).map (Br true k)) ((cs).length:Int)),pk (As 3 (i:Int) ((cs).length:Int)),pk (Ah 39 28 9 ((cs).map (Br true k)) i (i:Int) ((Br true k) (cat cs i)) (Eh hi)),pk (Ah 39 28 9 ((cs).map (Br c j)) i (i:Int) ((Br c j) (cat cs i)) (Eh hi)),po (hs),pa,pk (Ah 39 28 9 ((cs).map (Br true k)) i (i:Int) ((Br true k) (cat cs i)) (Eh hi)),pk (Af 3 ((cat cs i).kind) 1),pk (Az 3 (i:Int) 1 ⟨by omega,by omega⟩)]
  ·exact rr [pk (AK 39 28 3 9 ((cs).map (Br true k)) ((cs).length:Int)),pk (Aj 3 ((cs).length:Int) ((cs).length:Int))]
 exact sr 50 [pk (AK 39 28 3 9 ((cs).map (Br true k)) ((cs).length:Int)),pk (AK 39 28 3 9 ((cs).map (Br c j)) ((cs).length:Int)),pk (At 3 ((cs).length:Int) ((cs).length:Int)),pl (lo)]
theorem Pz (xs:List Nat)(hx:B8 xs):Sp Tryz.prog I 15 [.t (bI xs),.t (bI xs)] (lb true) :=
 sr 10 [pk (Gi xs),pk (Gi xs),pk (RN 9 xs xs true (decide_eq_true rfl) hx hx)]
end
def jby:List Ch→List Nat
 | []=>[]
 | x::r=>Bs 7 (Bb x).1++jby r
theorem LB : ∀ (a b:List Ch),jby (a++b)=jby a++jby b
 | [],b=>rfl
 | x::a,b=>by rw[List.cons_append,jby,jby,LB a b,List.append_assoc]
theorem LA (x:Ch):jby [x]=Bs 7 (Bb x).1:=by rw[jby,jby,List.append_nil]
theorem KD : ∀ cs:List Ch,B8 (jby cs)
 | []=>fun x hx=>by cases hx
 | x::r=>(Re x).app (KD r)
theorem Pp : ∀ cs:List Ch,(∀ x∈cs,(Bb x).2=0)→(jby cs).length≤1000*cs.length
 | [],_=>by simp[jby]
 | x::r,h=>by
  have h1:=(M9 x (h x (by simp))).2
  have h2:=Pp r (fun y hy=>h y (by simp[hy]))
  rw[jby,List.length_append,List.length_cons];omega
def Gp (cs:List Ch)(i:Nat):Nat:=(jby (cs.take i)).length
theorem NU (cs:List Ch):Gp cs 0=0:=rfl
theorem JH (cs:List Ch):Gp cs cs.length=(jby cs).length:=by unfold Gp;rw[List.take_length]
theorem KC {cs:List Ch}{i:Nat}(h:i < cs.length):Gp cs (i+1)=Gp cs i+(Bs 7 (Bb (cat cs i)).1).length:=by
 unfold Gp;rw[GH h,LB,LA,List.length_append]
theorem NV {cs:List Ch} : ∀ {i j:Nat},i≤j→j≤cs.length→Gp cs i≤Gp cs j
 | i,0,h,_=>by rw[show i=0 by omega];omega
 | i,j+1,h,hj=>by
  by_cases e:i=j+1
  ·rw[e];omega
  ·have:=NV (cs:=cs) (i:=i) (j:=j) (by omega) (by omega)
   rw[KC (by omega)]
   omega
theorem XE (cs:List Ch)(i:Nat):(jby cs).drop (Gp cs i)=jby (cs.drop i):=by
 have:jby cs=jby (cs.take i)++jby (cs.drop i):=by rw[←LB,List.take_append_drop]
 rw[this];exact List.drop_left
theorem XF {cs:List Ch}{i:Nat}(h:i < cs.length):(jby cs).drop (Gp cs i)=Bs 7 (Bb (cat cs i)).1++jby (cs.drop (i+1)):=by
 rw[XE];have:cs.drop i=cat cs i::cs.drop (i+1):=by
  have e:=EP h;rw[List.getElem?_eq_getElem h] at e;injection e with e;rw[←e];exact List.drop_eq_getElem_cons h
 rw[this,jby]
theorem GU {x:Ch}(h:(Bb x).2=0):Bb x=((Bb x).1,0):=by rw[←h]
theorem X9 (cs:List Ch)(ok : ∀ x∈cs,(Bb x).2=0)(k:Nat)(m:Nat)(hm:m≤cs.length)(h1:Gp cs m≤k)(h2:m < cs.length→k < Gp cs (m+1)):Jr ((jby cs).take k) (cs.take m) (Gp cs):=by
 have ok' : ∀ i,i < cs.length→(Bb (cat cs i)).2=0:=fun i hi=>ok _ (List.mem_of_getElem? (EP hi))
 have hlen:(cs.take m).length=m:=by rw[List.length_take];omega
 constructor
 ·intro i hi
  rw[hlen] at hi;have e1:cat (cs.take m) i=cat cs i:=by
   have a:=EP (L:=cs.take m) (i:=i) (by omega)
   rw[List.getElem?_take,if_pos hi,EP (by omega)] at a
   injection a with a;exact a.symm
  rw[e1];have hk:=NV (cs:=cs) (i:=i+1) (j:=m) (by omega) hm
  have hs:=KC (cs:=cs) (i:=i) (by omega)
  have ho:=ok' i (by omega)
  have hl:=EF (cat cs i);refine ⟨(Bb (cat cs i)).1,(Bs 7 (Bb (cat cs i)).1).length,?_,GU ho,hs⟩;rw[List.drop_take,XF (by omega),List.take_append,List.take_of_length_le (by omega)]
  exact O5 7 _ _ (by omega)
 ·rintro y e ⟨body,used,h3,_⟩
  rw[hlen,List.drop_take] at h3;by_cases hlt:m < cs.length
  ·have hs:=KC (cs:=cs) (i:=m) hlt
   have hl:=EF (cat cs m);have:=h2 hlt;rw[XF hlt,List.take_append_of_le_length (by omega),PQ 7 _ _ (by omega) (by omega)] at h3
   cases h3
  ·have e0:(jby cs).drop (Gp cs m)=[]:=by
    rw[show m=cs.length by omega,JH]
    exact List.drop_eq_nil_of_le (Nat.le_refl _)
   rw[e0,List.take_nil] at h3;simp[AP] at h3
theorem XA (cs:List Ch)(ok : ∀ x∈cs,(Bb x).2=0):Jr (jby cs) cs (Gp cs):=by
 have:=X9 cs ok (jby cs).length cs.length (Nat.le_refl _) (by rw[JH];exact Nat.le_refl _) (fun h=>absurd h (Nat.lt_irrefl _))
 rwa [List.take_length,List.take_length] at this
def kx5:Ch:=⟨3,0,0,0,0,5⟩
theorem ZR:Bb kx5=([3,0,10],0):=by
 have h:Bp kx5=true:=by decide +kernel
 unfold Bb;rw[h,if_neg (by decide),if_neg (fun h=>absurd h.1 (by decide))]
 show (Ac 3++Ac 0++NW kx5,(0:Int))=_;have e:NW kx5=Ac 10:=rfl;rw[e,CF (by omega),CF (by omega),CF (by omega)]
 rfl
theorem AcV (k:Nat)(h:0 < k):Lq kx5.q k:=⟨F5 k,Ee h,h⟩
theorem Cv:Sp Tryz.prog Am 12 [] (lb true):=by
 have e0:=ZR;have hok : ∀ x∈[kx5],(Bb x).2=0:=fun x hx=>by rw[List.mem_singleton.1 hx,e0]
 have hlen:(jby [kx5]).length=9:=by
  rw[LA,FZ,e0];simp only[List.length_cons,List.length_nil];rw[CF (by omega)]
  rfl
 have ha:=(RD (c:=false) (k:=12) [] (by simp) kx5 (by omega)).inv OF
 have hj:FX [] kx5=(jby [kx5],0):=by
  unfold FX;rw[e0,if_pos rfl,LA,e0]
  rfl
 rw[hj] at ha;have ha:=ha.wk (args':=[.one (.z),chL 3 0 0 0 5]) ⟨XLe.one H7,SW 12 (by omega) 3 0 0 0 5,trivial⟩
 have p1:Gp [kx5] 1=9:=by rw[←hlen];exact JH [kx5]
 have hk : ∀ i,i < [kx5].length→Lq (cat [kx5] i).q 12:=fun i hi=>by
  have:i=0:=by simp at hi;exact hi
  subst this;exact AcV 12 (by omega)
 have r1:=Se (k:=12) (jby [kx5]) (KD _) (by omega) (XA [kx5] hok) rfl hk
 have hc0':=X9 [kx5] hok 8 0 (by simp) (by rw[NU];omega) (fun _=>by rw[p1];omega)
 have r2:=Se (k:=12) ((jby [kx5]).take 8) ((KD _).take 8) (by rw[List.length_take];omega) hc0' rfl (fun i hi=>by simp at hi)
 have r1:Sp Tryz.prog Am 24 _ (.tu [.t (csI true 12 [kx5]),ci (Gp [kx5] 1:Int)]):=r1;rw[p1] at r1;have r2:Sp Tryz.prog Am 24 _ (.tu [.t (csI true 12 []),ci 0]):=r2;have hcl:[kx5].length=1:=rfl;have h5:(cat [kx5] 0).cost=5:=rfl;have hc0:0 < [kx5].length:=by decide
 have hdl:([]:List Ch).length=0:=rfl;generalize [kx5]=cs at *;generalize ([]:List Ch)=ds at *;generalize jby cs=b at *;exact sr 58 [po (ha),pa,pk (AK 31 5 3 1 ((b).map (Aa)) ((b).length:Int)),pk (Aj 3 ((b).length:Int) 5),po (r1),pk (AK 31 5 3 1 ((b).map (Aa)) ((b).length:Int)),pk (Ov 3 ((b).length:Int) 1 ⟨by omega,by omega⟩),pk (PF b 8 (((b).length:Int) - 1) (by omega) (by omega)),po (r2),pk (AK 39 28 3 9 ((cs).map (Br true 12)) ((cs).length:Int)),pk (Ak 3 ((cs).length:Int) 1),pk (Ah 39 28 9 ((cs).map (Br true 12)) 0 0 ((Br true 12) (cat cs 0)) (Eh hc0)),pk (Ba 3 ((cat cs 0).cost) 5 true (decide_eq_true h5)),pk (AK 31 5 3 1 ((b).map (Aa)) ((b).length:Int)),pk (Ba 3 (9:Int) ((b).length:Int) true (decide_eq_true (by omega))),pk (AK 39 28 3 9 ((ds).map (Br true 12)) ((ds).length:Int)),pk (Ak 3 ((ds).length:Int) 0),pa]
def trA (q:Rat)(cs:List Ch):List Nd×Bool×Int:=cs.foldl (fun T x=>apS T.1 T.2.1 T.2.2 x) (Hn q,false,0)
theorem PY (q:Rat)(cs:List Ch)(x:Ch):trA q (cs++[x])=apS (trA q cs).1 (trA q cs).2.1 (trA q cs).2.2 x:=by unfold trA;rw[List.foldl_append];rfl
def okA (q:Rat)(cs:List Ch):Prop := ∀ i,i < cs.length→apC (trA q (cs.take i)).1 (trA q (cs.take i)).2.1 (trA q (cs.take i)).2.2 (cat cs i)=0
theorem YH {L M:List Ch}{i:Nat}(h:i < L.length):cat (L++M) i=cat L i:=by
 unfold cat;rw[List.getD_eq_getElem?_getD,List.getElem?_append_left h,←List.getD_eq_getElem?_getD]
theorem YI (L:List Ch)(x:Ch):cat (L++[x]) L.length=x:=by
 unfold cat;rw[List.getD_eq_getElem?_getD,List.getElem?_append_right (Nat.le_refl _),Nat.sub_self];rfl
theorem Xu {q:Rat}{cs:List Ch}{x:Ch}(h:okA q cs)(hx:apC (trA q cs).1 (trA q cs).2.1 (trA q cs).2.2 x=0):okA q (cs++[x]):=by
 intro i hi;rw[List.length_append,List.length_singleton] at hi;by_cases e:i=cs.length
 ·rw[e,YI,List.take_left]
  exact hx
 ·rw[List.take_append_of_le_length (by omega),YH (by omega)]
  exact h i (by omega)
theorem ZH {q:Rat}(hq:okc q=true){cs:List Ch}(h:okA q cs) : ∀ i,i≤cs.length→tvc (trA q (cs.take i)).1 (trA q (cs.take i)).2.1 (trA q (cs.take i)).2.2=0
 | 0,_=>O9.2 ⟨0,Xe hq⟩
 | i+1,hi=>by
  rw[GH (by omega),PY]
  exact (Ac3 (h i (by omega))).2.2.2
theorem Aa4 (n:Int):Lq (Kc n).q 12:=by
 have h0:Lq 0 12:=⟨F5 12,Ee (by omega),by omega⟩
 unfold Kc;split
 ·exact Rf _
 ·split
  ·exact h0
  ·split
   ·exact h0
   ·exact h0
def jnP (l:List Int):Nat→List Ch
 | 0=>[]
 | k+1=>if apC (trA (B9 (atS l 0)) (jnP l k)).1 (trA (B9 (atS l 0)) (jnP l k)).2.1 (trA (B9 (atS l 0)) (jnP l k)).2.2 (Kc (atS l (k+1)))=0∧(Bb (Kc (atS l (k+1)))).2=0 then jnP l k++[Kc (atS l (k+1))] else jnP l k
structure Jok (q:Rat) (n:Nat) (cs:List Ch):Prop where
 len:cs.length≤n
 enc : ∀ x∈cs,(Bb x).2=0
 lq : ∀ x∈cs,Lq x.q 12
 ap:okA q cs
theorem S4 (l:List Int) : ∀ k,Jok (B9 (atS l 0)) k (jnP l k)
 | 0=>⟨Nat.le_refl _,(fun x hx=>by cases hx),(fun x hx=>by cases hx),(fun i hi=>by cases hi)⟩
 | k+1=>by
  have ih:=S4 l k;rw[jnP];by_cases h:apC (trA (B9 (atS l 0)) (jnP l k)).1 (trA (B9 (atS l 0)) (jnP l k)).2.1 (trA (B9 (atS l 0)) (jnP l k)).2.2 (Kc (atS l (k+1)))=0∧(Bb (Kc (atS l (k+1)))).2=0
  ·rw[if_pos h]
   refine ⟨by rw[List.length_append,List.length_singleton];have:=ih.len;omega,fun x hx => ?_,fun x hx => ?_,Xu ih.ap h.1⟩
   ·rcases List.mem_append.1 hx with hx | hx
    ·exact ih.enc x hx
    ·rw[List.mem_singleton.1 hx];exact h.2
   ·rcases List.mem_append.1 hx with hx | hx
    ·exact ih.lq x hx
    ·rw[List.mem_singleton.1 hx];exact Aa4 _
  ·rw[if_neg h]
   exact ⟨by have:=ih.len;omega,ih.enc,ih.lq,ih.ap⟩
def jnN (l:List Int):Nat:=if 10≤l.length - 1 then 10 else l.length - 1
def jnS (l:List Int):List Ch:=jnP l (jnN l)
theorem S3 (l:List Int):Jok (B9 (atS l 0)) 10 (jnS l):=by
 have h:=S4 l (jnN l);have:jnN l≤10:=by unfold jnN;split <;> omega
 exact ⟨by have:=h.len;unfold jnS;omega,h.enc,h.lq,h.ap⟩
theorem XD (cs:List Ch)(x:Ch)(h:(Bb x).2=0):FX (jby cs) x=(jby (cs++[x]),0):=by
 unfold FX;rw[if_pos h,LB,LA]
section
variable {I:WInv}
def jst (l:List Int)(b:List Nat)(cs:List Ch)(L:List Nd)(f:Bool)(z:Int)(i:Int):Go.Proofs.YtdgbealknnmkoaaGreatDoor.St:=⟨[(0,.t (slI 1 ((l).map (Ag)))),(4,.p 2 0),(5,.p 7 0),(6,.s 40),(7,.t (slI 1 ((b).map (Aa)))),(8,.i i)],[(2,some ⟨46,none,[.z,.o false,.i 0]⟩),(7,some ⟨46,none,[.b (.it (slI 9 ((L).map (Al true)))),.o f,.i z]⟩),(40,some ⟨28,some (9,(cs).length),Ad ((cs).map (Br false 12))⟩)],50⟩
def Adr (b:List Nat)(cs:List Ch)(L:List Nd)(f:Bool)(z:Int):Go.Proofs.YtdgbealknnmkoaaGreatDoor.St:=⟨[(4,.p 2 0),(5,.p 7 0),(6,.s 40),(7,.t (slI 1 ((b).map (Aa))))],[(2,some ⟨46,none,[.z,.o false,.i 0]⟩),(7,some ⟨46,none,[.b (.it (slI 9 ((L).map (Al true)))),.o f,.i z]⟩),(40,some ⟨28,some (9,(cs).length),Ad ((cs).map (Br false 12))⟩)],50⟩
theorem S0 (l:List Int)(hl:l.length≤35184372087808)(b:List Nat)(hb:b.length≤1000000)(cs:List Ch)(hc:cs.length≤100000)(L:List Nd)(f:Bool)(z:Int)(k:Nat)(h1:k < 10)(h2:k+1 < l.length)(hn:L.length≤2000)(x:Ch)(hx:x=Kc (atS l (k+1))) :
  (apC L f z x=0→(FX b x).2=0→Rnd Tryz.prog I 58 (Bj Tryz.prog 20 0) (jst l b cs L f z ((k+1:Nat):Int)) .normal (jst l (FX b x).1 (cs++[x]) (apS L f z x).1 (apS L f z x).2.1 (apS L f z x).2.2 ((k+1+1:Nat):Int))) ∧
  (¬ (apC L f z x=0∧(FX b x).2=0)→Rnd Tryz.prog I 58 (Bj Tryz.prog 20 0) (jst l b cs L f z ((k+1:Nat):Int)) .normal (jst l b cs L f z ((k+1+1:Nat):Int))):=by
 have hch:=SU (I:=I) l (k+1) (by omega) hl
 rw[←hx] at hch;have hap:=UY (I:=I) (c:=true) (c':=false) L f z (by omega) x
 have hje:=NJ (I:=I) (c:=false) (k:=12) b (by omega) x (by omega)
 generalize apS L f z x=S at *;generalize apC L f z x=r at *;generalize FX b x=J at *;obtain ⟨b2,r2⟩:=J;simp only at hje ⊢;refine ⟨fun e1 e2 => ?_,fun hno => ?_⟩
 ·subst e1 e2
  exact Rnd.nam [(40,91)] (show Rnd _ _ _ _ _ _ ⟨[(0,.t (slI 1 ((l).map (Ag)))),(4,.p 2 0),(5,.p 7 0),(6,.s 91),(7,.t (slI 1 ((b2).map (Aa)))),(8,.i ((k+1+1:Nat):Int))],[(2,some ⟨46,none,[.z,.o false,.i 0]⟩),(7,some ⟨46,none,[.b (.it (slI 9 ((S.1).map (Al true)))),.o S.2.1,.i S.2.2]⟩),(91,some ⟨28,some (9,(cs).length+1),(Ad ((cs).map (Br false 12)))++([.i x.kind,.i x.node,.b (.it (fF false 12 x.q)),.i x.fst,.i x.nxt,.i x.cost])⟩)],98⟩ from rr [pk (Fn 3 ((k+1:Nat):Int) 10),pk (AK 40 3 3 1 ((l).map (Ag)) ((l).length:Int)),pk (As 3 ((k+1:Nat):Int) ((l).length:Int)),po (hch),po (hap),po (hje),pa,pa,⟨.ap ((cs).length) 1 104,⟨by omega,by simp[maxLen];omega⟩⟩,pk (Az 3 ((k+1:Nat):Int) 1 ⟨by omega,by omega⟩)]) (t:=⟨[(0,.t (slI 1 ((l).map (Ag)))),(4,.p 2 0),(5,.p 7 0),(6,.s 40),(7,.t (slI 1 ((b2).map (Aa)))),(8,.i ((k+1+1:Nat):Int))],[(2,some ⟨46,none,[.z,.o false,.i 0]⟩),(7,some ⟨46,none,[.b (.it (slI 9 ((S.1).map (Al true)))),.o S.2.1,.i S.2.2]⟩),(40,some ⟨28,some (9,(cs++[x]).length),Ad (((cs++[x])).map (Br false 12))⟩)],50⟩) ⟨rfl,TVle.refl,rfl,TVle.refl,rfl,TVle.refl,rfl,TVle.refl,rfl,TVle.refl,rfl,TVle.refl,trivial⟩ ⟨rfl,rfl,rfl,ILe.refl,rfl,rfl,rfl,ILe.refl,rfl,rfl,(congrArg (fun m=>some (9,m)) (show (cs).length+1=(cs++[x]).length by simp)),ILe.eq (show (Ad ((cs).map (Br false 12)))++([.i x.kind,.i x.node,.b (.it (fF false 12 x.q)),.i x.fst,.i x.nxt,.i x.cost])=Ad (((cs++[x])).map (Br false 12)) from by simp[Ad]),trivial⟩
 ·by_cases h0:r=0
  ·subst h0
   have hr2 : ¬ r2=0:=fun h=>hno ⟨rfl,h⟩
   exact Rnd.nam [] (show Rnd _ _ _ _ _ _ ⟨[(0,.t (slI 1 ((l).map (Ag)))),(4,.p 2 0),(5,.p 7 0),(6,.s 40),(7,.t (slI 1 ((b).map (Aa)))),(8,.i ((k+1+1:Nat):Int))],[(2,some ⟨46,none,[.z,.o false,.i 0]⟩),(7,some ⟨46,none,[.b (.it (slI 9 ((L).map (Al true)))),.o f,.i z]⟩),(40,some ⟨28,some (9,(cs).length),Ad ((cs).map (Br false 12))⟩)],89⟩ from rr [pk (Fn 3 ((k+1:Nat):Int) 10),pk (AK 40 3 3 1 ((l).map (Ag)) ((l).length:Int)),pk (As 3 ((k+1:Nat):Int) ((l).length:Int)),po (hch),po (hap),po (hje),pa,pk (Af 32 r2 0),pk (Az 3 ((k+1:Nat):Int) 1 ⟨by omega,by omega⟩)]) (t:=⟨[(0,.t (slI 1 ((l).map (Ag)))),(4,.p 2 0),(5,.p 7 0),(6,.s 40),(7,.t (slI 1 ((b).map (Aa)))),(8,.i ((k+1+1:Nat):Int))],[(2,some ⟨46,none,[.z,.o false,.i 0]⟩),(7,some ⟨46,none,[.b (.it (slI 9 ((L).map (Al true)))),.o f,.i z]⟩),(40,some ⟨28,some (9,(cs).length),Ad ((cs).map (Br false 12))⟩)],50⟩) ⟨rfl,TVle.refl,rfl,TVle.refl,rfl,TVle.refl,rfl,TVle.refl,rfl,TVle.refl,rfl,TVle.refl,trivial⟩ ⟨rfl,rfl,rfl,ILe.refl,rfl,rfl,rfl,ILe.refl,rfl,rfl,rfl,ILe.refl,trivial⟩
  ·exact Rnd.nam [] (show Rnd _ _ _ _ _ _ ⟨[(0,.t (slI 1 ((l).map (Ag)))),(4,.p 2 0),(5,.p 7 0),(6,.s 40),(7,.t (slI 1 ((b).map (Aa)))),(8,.i ((k+1+1:Nat):Int))],[(2,some ⟨46,none,[.z,.o false,.i 0]⟩),(7,some ⟨46,none,[.b (.it (slI 9 ((L).map (Al true)))),.o f,.i z]⟩),(40,some ⟨28,some (9,(cs).length),Ad ((cs).map (Br false 12))⟩)],89⟩ from rr [pk (Fn 3 ((k+1:Nat):Int) 10),pk (AK 40 3 3 1 ((l).map (Ag)) ((l).length:Int)),pk (As 3 ((k+1:Nat):Int) ((l).length:Int)),po (hch),po (hap),po (hje),pk (Af 32 r 0),pk (Az 3 ((k+1:Nat):Int) 1 ⟨by omega,by omega⟩)]) (t:=⟨[(0,.t (slI 1 ((l).map (Ag)))),(4,.p 2 0),(5,.p 7 0),(6,.s 40),(7,.t (slI 1 ((b).map (Aa)))),(8,.i ((k+1+1:Nat):Int))],[(2,some ⟨46,none,[.z,.o false,.i 0]⟩),(7,some ⟨46,none,[.b (.it (slI 9 ((L).map (Al true)))),.o f,.i z]⟩),(40,some ⟨28,some (9,(cs).length),Ad ((cs).map (Br false 12))⟩)],50⟩) ⟨rfl,TVle.refl,rfl,TVle.refl,rfl,TVle.refl,rfl,TVle.refl,rfl,TVle.refl,rfl,TVle.refl,trivial⟩ ⟨rfl,rfl,rfl,ILe.refl,rfl,rfl,rfl,ILe.refl,rfl,rfl,rfl,ILe.refl,trivial⟩
theorem Vx (l:List Int)(hl:l.length≤35184372087808):LoopTr Tryz.prog I 58 (Bj Tryz.prog 20 0) (jst l [] [] (Hn (B9 (atS l 0))) false 0 ((0+1:Nat):Int)) (.exit 0) (Adr (jby (jnS l)) (jnS l) (trA (B9 (atS l 0)) (jnS l)).1 (trA (B9 (atS l 0)) (jnS l)).2.1 (trA (B9 (atS l 0)) (jnS l)).2.2):=by
 refine Ck (by simp) (fun k=>jst l (jby (jnP l k)) (jnP l k) (trA (B9 (atS l 0)) (jnP l k)).1 (trA (B9 (atS l 0)) (jnP l k)).2.1 (trA (B9 (atS l 0)) (jnP l k)).2.2 ((k+1:Nat):Int)) (jnN l) (fun k hk => ?_) ?_
 ·have hk2:k < 10∧k+1 < l.length:=by unfold jnN at hk;split at hk <;> omega
  have hok:=S4 l k;have hbl:=Pp (jnP l k) hok.enc;have hlen:=hok.len;have ht:=ZH (XO _) hok.ap (jnP l k).length (Nat.le_refl _);rw[List.take_length] at ht;have hb:=(LS ht).2.1;obtain ⟨r1,r2⟩:=S0 (I:=I) l hl (jby (jnP l k)) (by omega) (jnP l k) (by omega) (trA (B9 (atS l 0)) (jnP l k)).1 (trA (B9 (atS l 0)) (jnP l k)).2.1 (trA (B9 (atS l 0)) (jnP l k)).2.2 k hk2.1 hk2.2 hb _ rfl
  rw[jnP];by_cases h:apC (trA (B9 (atS l 0)) (jnP l k)).1 (trA (B9 (atS l 0)) (jnP l k)).2.1 (trA (B9 (atS l 0)) (jnP l k)).2.2 (Kc (atS l (k+1)))=0∧(Bb (Kc (atS l (k+1)))).2=0
  ·rw[if_pos h,PY]
   have e:=XD (jnP l k) _ h.2;have:=r1 h.1 (by rw[e])
   rw[e] at this;exact this
  ·rw[if_neg h]
   refine r2 fun hh=>h ⟨hh.1,?_⟩
   exact (ZS hh.2).1
 ·show Rnd Tryz.prog I _ _ (jst l (jby (jnS l)) (jnS l) (trA (B9 (atS l 0)) (jnS l)).1 (trA (B9 (atS l 0)) (jnS l)).2.1 (trA (B9 (atS l 0)) (jnS l)).2.2 ((jnN l+1:Nat):Int)) _ _
  have hk:jnN l=10∨(jnN l < 10∧(l.length=jnN l+1∨l.length=0)):=by unfold jnN;split <;> omega
  generalize trA (B9 (atS l 0)) (jnS l)=S at *;obtain ⟨L,f,z⟩:=S
  dsimp only
  generalize jby (jnS l)=b at *;generalize jnS l=cs at *;generalize jnN l=k at *;rcases hk with hk | ⟨hk,hk2⟩
  ·exact Rnd.nam [] (show Rnd _ _ _ _ _ _ ⟨[(4,.p 2 0),(5,.p 7 0),(6,.s 40),(7,.t (slI 1 ((b).map (Aa))))],[(2,some ⟨46,none,[.z,.o false,.i 0]⟩),(7,some ⟨46,none,[.b (.it (slI 9 ((L).map (Al true)))),.o f,.i z]⟩),(40,some ⟨28,some (9,(cs).length),Ad ((cs).map (Br false 12))⟩)],58⟩ from rr [pk (GK 3 ((k+1:Nat):Int) 10)]) (t:=⟨[(4,.p 2 0),(5,.p 7 0),(6,.s 40),(7,.t (slI 1 ((b).map (Aa))))],[(2,some ⟨46,none,[.z,.o false,.i 0]⟩),(7,some ⟨46,none,[.b (.it (slI 9 ((L).map (Al true)))),.o f,.i z]⟩),(40,some ⟨28,some (9,(cs).length),Ad ((cs).map (Br false 12))⟩)],50⟩) ⟨rfl,TVle.refl,rfl,TVle.refl,rfl,TVle.refl,rfl,TVle.refl,trivial⟩ ⟨rfl,rfl,rfl,ILe.refl,rfl,rfl,rfl,ILe.refl,rfl,rfl,rfl,ILe.refl,trivial⟩
  ·exact Rnd.nam [] (show Rnd _ _ _ _ _ _ ⟨[(4,.p 2 0),(5,.p 7 0),(6,.s 40),(7,.t (slI 1 ((b).map (Aa))))],[(2,some ⟨46,none,[.z,.o false,.i 0]⟩),(7,some ⟨46,none,[.b (.it (slI 9 ((L).map (Al true)))),.o f,.i z]⟩),(40,some ⟨28,some (9,(cs).length),Ad ((cs).map (Br false 12))⟩)],58⟩ from rr [pk (Fn 3 ((k+1:Nat):Int) 10),pk (AK 40 3 3 1 ((l).map (Ag)) ((l).length:Int)),pk (Aj 3 ((k+1:Nat):Int) ((l).length:Int))]) (t:=⟨[(4,.p 2 0),(5,.p 7 0),(6,.s 40),(7,.t (slI 1 ((b).map (Aa))))],[(2,some ⟨46,none,[.z,.o false,.i 0]⟩),(7,some ⟨46,none,[.b (.it (slI 9 ((L).map (Al true)))),.o f,.i z]⟩),(40,some ⟨28,some (9,(cs).length),Ad ((cs).map (Br false 12))⟩)],50⟩) ⟨rfl,TVle.refl,rfl,TVle.refl,rfl,TVle.refl,rfl,TVle.refl,trivial⟩ ⟨rfl,rfl,rfl,ILe.refl,rfl,rfl,rfl,ILe.refl,rfl,rfl,rfl,ILe.refl,trivial⟩
theorem XB (l:List Int)(q:Rat):Leads I 58 ⟨[(6,.cv (.one (.z))),(7,.cv (.one (.z))),(0,.t (slI 1 ((l).map (Ag)))),(4,.p 2 0),(5,.p 7 0),(8,.i 1)],[(2,some ⟨46,none,[.z,.o false,.i 0]⟩),(7,some ⟨46,none,[.b (.it (slI 9 (((Hn q)).map (Al true)))),.o false,.i 0]⟩)],49⟩ (jst l [] [] (Hn q) false 0 ((0+1:Nat):Int)) :=
 (show Leads I 58 ⟨[(6,.cv (.one (.z))),(7,.cv (.one (.z))),(0,.t (slI 1 ((l).map (Ag)))),(4,.p 2 0),(5,.p 7 0),(8,.i 1)],[(2,some ⟨46,none,[.z,.o false,.i 0]⟩),(7,some ⟨46,none,[.b (.it (slI 9 (((Hn q)).map (Al true)))),.o false,.i 0]⟩)],49⟩ ⟨[(6,.cv (.one (.z))),(7,.t (slI 1 ((([]:List Nat)).map (Aa)))),(0,.t (slI 1 ((l).map (Ag)))),(4,.p 2 0),(5,.p 7 0),(8,.i 1)],[(2,some ⟨46,none,[.z,.o false,.i 0]⟩),(7,some ⟨46,none,[.b (.it (slI 9 (((Hn q)).map (Al true)))),.o false,.i 0]⟩)],49⟩ from FI ⟨rfl,TVle.refl,rfl,(XLe.one H7).tv,rfl,TVle.refl,rfl,TVle.refl,rfl,TVle.refl,rfl,TVle.refl,trivial⟩ ⟨rfl,rfl,rfl,ILe.refl,rfl,rfl,rfl,ILe.refl,trivial⟩).trans ((FT (t:=6) (k:=40) 28 9 rfl (by repeat' first | exact trivial | exact fun h=>absurd h Bool.false_ne_true | exact fun _=>Ar _ | exact fun _=>rfl | exact fun _=>BM (Ar _) rfl | refine ⟨?_,?_⟩) rfl rfl).trans (FP ⟨rfl,rfl,rfl,rfl,rfl,rfl,trivial⟩ ⟨rfl,rfl,rfl,trivial⟩))
theorem Pk (l:List Int)(hl:l.length≤35184372087808):Sp Tryz.prog I 20 [.t (slI 1 (l.map Ag))] (.tu [.t (csI false 12 (jnS l)),.t (bI (jby (jnS l))),trT true (trA (B9 (atS l 0)) (jnS l)).1 (trA (B9 (atS l 0)) (jnS l)).2.1 (trA (B9 (atS l 0)) (jnS l)).2.2]):=by
 have ha:=YT (I:=I) l 0 (by omega) hl
 have hf:=TS (I:=I) (atS l 0);have hnw:=Z0 (I:=I) (c:=true) (B9 (atS l 0));have lo:=LoopTr.pre (XB (I:=I) l (B9 (atS l 0))) (Vx (I:=I) l hl);generalize trA (B9 (atS l 0)) (jnS l)=S at *;obtain ⟨L,f,z⟩:=S
 dsimp only at lo ⊢
 generalize jby (jnS l)=b at *;generalize jnS l=cs at *;generalize B9 (atS l 0)=q at *;generalize atS l 0=n at *;exact sr 58 [po (ha),po (hf),po (hnw),pl (lo),⟨.part ([.b (.it (slI 9 ((L).map (Al true)))),.o f,.i z]) 0 3 [.b (.it (slI 9 ((L).map (Al true)))),.o f,.i z],rfl⟩,⟨.upd [.z,.o false,.i 0] 0 [.b (.it (slI 9 ((L).map (Al true)))),.o f,.i z] [.b (.it (slI 9 ((L).map (Al true)))),.o f,.i z],rfl⟩,pm (AH (I:=I) (t:=2) (k:=40) (E:=[(3,.t (slI 1 ((b).map (Aa)))),(4,.p 2 0)]) (B:=[(2,some ⟨46,none,[.b (.it (slI 9 ((L).map (Al true)))),.o f,.i z]⟩)]) (nx:=56) (T:=28) (sz:=9) (n:=((cs).length)) ((cs).map (Br false 12)) rfl (by simp) RX rfl)]
end
end Go.Proofs.YtdgbealknnmkoaaGreatDoor
