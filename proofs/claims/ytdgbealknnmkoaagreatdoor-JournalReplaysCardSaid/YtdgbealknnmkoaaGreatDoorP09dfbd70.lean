/- Texts of one proof, put together by a program: each lemma is proved for all values of its variables, under the premises that it states. -/
import Derived.Test.YtdgbealknnmkoaaGreatDoorP77231295
set_option linter.unusedVariables false
set_option linter.unusedSimpArgs false
namespace Go.Proofs.YtdgbealknnmkoaaGreatDoor
open Go Go.RowKit
def jby:List Ch→List Nat
 | []=>[]
 | x::r=>Bw 7 (Bm x).1++jby r
theorem Mm : ∀ (a b:List Ch),jby (a++b)=jby a++jby b
 | [],b=>rfl
 | x::a,b=>by rw[List.cons_append,jby,jby,Mm a b,List.append_assoc]
theorem Ml (x:Ch):jby [x]=Bw 7 (Bm x).1:=by rw[jby,jby,List.append_nil]
theorem No : ∀ cs:List Ch,B8 (jby cs)
 | []=>fun x hx=>by cases hx
 | x::r=>(Zo x).app (No r)
theorem Ql : ∀ cs:List Ch,(∀ x∈cs,(Bm x).2=0)→(jby cs).length≤1000*cs.length
 | [],_=>by simp[jby]
 | x::r,h=>by
  have h1:=(Nt x (h x (by simp))).2
  have h2:=Ql r (fun y hy=>h y (by simp[hy]))
  rw[jby,List.length_append,List.length_cons];omega
def G6 (cs:List Ch)(i:Nat):Nat:=(jby (cs.take i)).length
theorem KZ (cs:List Ch):G6 cs 0=0:=rfl
theorem Nn (cs:List Ch):G6 cs cs.length=(jby cs).length:=by unfold G6;rw[List.take_length]
theorem La {cs:List Ch}{i:Nat}(h:i < cs.length):G6 cs (i+1)=G6 cs i+(Bw 7 (Bm (cat cs i)).1).length:=by
 unfold G6;rw[Ff h,Mm,Ml,List.length_append]
theorem ON {cs:List Ch} : ∀ {i j:Nat},i≤j→j≤cs.length→G6 cs i≤G6 cs j
 | i,0,h,_=>by rw[show i=0 by omega];omega
 | i,j+1,h,hj=>by
  by_cases e:i=j+1
  ·rw[e];omega
  ·have:=ON (cs:=cs) (i:=i) (j:=j) (by omega) (by omega)
   rw[La (by omega)]
   omega
theorem Ze (cs:List Ch)(i:Nat):(jby cs).drop (G6 cs i)=jby (cs.drop i):=by
 have:jby cs=jby (cs.take i)++jby (cs.drop i):=by rw[←Mm,List.take_append_drop]
 rw[this];exact List.drop_left
theorem Zf {cs:List Ch}{i:Nat}(h:i < cs.length):(jby cs).drop (G6 cs i)=Bw 7 (Bm (cat cs i)).1++jby (cs.drop (i+1)):=by
 rw[Ze];have:cs.drop i=cat cs i::cs.drop (i+1):=by
  have e:=DJ h;rw[List.getElem?_eq_getElem h] at e;injection e with e;rw[←e];exact List.drop_eq_getElem_cons h
 rw[this,jby]
theorem WG {x:Ch}(h:(Bm x).2=0):Bm x=((Bm x).1,0):=by rw[←h]
theorem Zb (cs:List Ch)(ok : ∀ x∈cs,(Bm x).2=0)(k:Nat)(m:Nat)(hm:m≤cs.length)(h1:G6 cs m≤k)(h2:m < cs.length→k < G6 cs (m+1)):Jr ((jby cs).take k) (cs.take m) (G6 cs):=by
 have ok' : ∀ i,i < cs.length→(Bm (cat cs i)).2=0:=fun i hi=>ok _ (List.mem_of_getElem? (DJ hi))
 have hlen:(cs.take m).length=m:=by rw[List.length_take];omega
 constructor
 ·intro i hi
  rw[hlen] at hi;have e1:cat (cs.take m) i=cat cs i:=by
   have a:=DJ (L:=cs.take m) (i:=i) (by omega)
   rw[List.getElem?_take,if_pos hi,DJ (by omega)] at a
   injection a with a;exact a.symm
  rw[e1];have hk:=ON (cs:=cs) (i:=i+1) (j:=m) (by omega) hm
  have hs:=La (cs:=cs) (i:=i) (by omega)
  have ho:=ok' i (by omega)
  have hl:=FN (cat cs i);refine ⟨(Bm (cat cs i)).1,(Bw 7 (Bm (cat cs i)).1).length,?_,WG ho,hs⟩;rw[List.drop_take,Zf (by omega),List.take_append,List.take_of_length_le (by omega)]
  exact Pw 7 _ _ (by omega)
 ·rintro y e ⟨body,used,h3,_⟩
  rw[hlen,List.drop_take] at h3;by_cases hlt:m < cs.length
  ·have hs:=La (cs:=cs) (i:=m) hlt
   have hl:=FN (cat cs m);have:=h2 hlt;rw[Zf hlt,List.take_append_of_le_length (by omega),QJ 7 _ _ (by omega) (by omega)] at h3
   cases h3
  ·have e0:(jby cs).drop (G6 cs m)=[]:=by
    rw[show m=cs.length by omega,Nn]
    exact List.drop_eq_nil_of_le (Nat.le_refl _)
   rw[e0,List.take_nil] at h3;simp[AP] at h3
theorem Zc (cs:List Ch)(ok : ∀ x∈cs,(Bm x).2=0):Jr (jby cs) cs (G6 cs):=by
 have:=Zb cs ok (jby cs).length cs.length (Nat.le_refl _) (by rw[Nn];exact Nat.le_refl _) (fun h=>absurd h (Nat.lt_irrefl _))
 rwa [List.take_length,List.take_length] at this
def kx5:Ch:=⟨3,0,0,0,0,5⟩
theorem Abz:Bm kx5=([3,0,10],0):=by
 have h:Br kx5=true:=by decide +kernel
 unfold Bm;rw[h,if_neg (by decide),if_neg (fun h=>absurd h.1 (by decide))]
 show (Ac 3++Ac 0++OO kx5,(0:Int))=_;have e:OO kx5=Ac 10:=rfl;rw[e,CR (by omega),CR (by omega),CR (by omega)]
 rfl
theorem AeE (k:Nat)(h:0 < k):Lq kx5.q k:=⟨FM k,Ft h,h⟩
theorem Ab0:Sp Tryz.prog Ao 12 [] (lb true):=by
 have e0:=Abz;have hok : ∀ x∈[kx5],(Bm x).2=0:=fun x hx=>by rw[List.mem_singleton.1 hx,e0]
 have hlen:(jby [kx5]).length=9:=by
  rw[Ml,Gn,e0];simp only[List.length_cons,List.length_nil];rw[CR (by omega)]
  rfl
 have ha:=(Aas (c:=false) (k:=12) [] (by simp) kx5 (by omega)).inv X9
 have hj:GU [] kx5=(jby [kx5],0):=by
  unfold GU;rw[e0,if_pos rfl,Ml,e0]
  rfl
 rw[hj] at ha;have ha:=ha.wk (args':=[.one (.z),chL 3 0 0 0 5]) ⟨XLe.one Ni,TS 12 (by omega) 3 0 0 0 5,trivial⟩
 have p1:G6 [kx5] 1=9:=by rw[←hlen];exact Nn [kx5]
 have hk : ∀ i,i < [kx5].length→Lq (cat [kx5] i).q 12:=fun i hi=>by
  have:i=0:=by simp at hi;exact hi
  subst this;exact AeE 12 (by omega)
 have r1:=Y9 (k:=12) (jby [kx5]) (No _) (by omega) (Zc [kx5] hok) rfl hk
 have hc0':=Zb [kx5] hok 8 0 (by simp) (by rw[KZ];omega) (fun _=>by rw[p1];omega)
 have r2:=Y9 (k:=12) ((jby [kx5]).take 8) ((No _).take 8) (by rw[List.length_take];omega) hc0' rfl (fun i hi=>by simp at hi)
 have r1:Sp Tryz.prog Ao 24 _ (.tu [.t (csI true 12 [kx5]),ci (G6 [kx5] 1:Int)]):=r1;rw[p1] at r1;have r2:Sp Tryz.prog Ao 24 _ (.tu [.t (csI true 12 []),ci 0]):=r2;have hcl:[kx5].length=1:=rfl;have h5:(cat [kx5] 0).cost=5:=rfl;have hc0:0 < [kx5].length:=by decide
 have hdl:([]:List Ch).length=0:=rfl;generalize [kx5]=cs at *;generalize ([]:List Ch)=ds at *;generalize jby cs=b at *;exact sr 58 [po (ha),pa,pk (AK 31 5 3 1 ((b).map (Ae)) ((b).length:Int)),pk (Ai 3 ((b).length:Int) 5),po (r1),pk (AK 31 5 3 1 ((b).map (Ae)) ((b).length:Int)),pk (NN 3 ((b).length:Int) 1 ⟨by omega,by omega⟩),pk (Acg b 8 (((b).length:Int) - 1) (by omega) (by omega)),po (r2),pk (AK 39 28 3 9 ((cs).map (Cg true 12)) ((cs).length:Int)),pk (Am 3 ((cs).length:Int) 1),pk (Aj 39 28 9 ((cs).map (Cg true 12)) 0 0 ((Cg true 12) (cat cs 0)) (Q8 hc0)),pk (AT 3 ((cat cs 0).cost) 5 true (decide_eq_true h5)),pk (AK 31 5 3 1 ((b).map (Ae)) ((b).length:Int)),pk (AT 3 (9:Int) ((b).length:Int) true (decide_eq_true (by omega))),pk (AK 39 28 3 9 ((ds).map (Cg true 12)) ((ds).length:Int)),pk (Am 3 ((ds).length:Int) 0),pa]
def trA (q:Rat)(cs:List Ch):List Nd×Bool×Int:=cs.foldl (fun T x=>apS T.1 T.2.1 T.2.2 x) (DE q,false,0)
theorem M7 (q:Rat)(cs:List Ch)(x:Ch):trA q (cs++[x])=apS (trA q cs).1 (trA q cs).2.1 (trA q cs).2.2 x:=by unfold trA;rw[List.foldl_append];rfl
def okA (q:Rat)(cs:List Ch):Prop := ∀ i,i < cs.length→apC (trA q (cs.take i)).1 (trA q (cs.take i)).2.1 (trA q (cs.take i)).2.2 (cat cs i)=0
theorem Aah {L M:List Ch}{i:Nat}(h:i < L.length):cat (L++M) i=cat L i:=by
 unfold cat;rw[List.getD_eq_getElem?_getD,List.getElem?_append_left h,←List.getD_eq_getElem?_getD]
theorem Aai (L:List Ch)(x:Ch):cat (L++[x]) L.length=x:=by
 unfold cat;rw[List.getD_eq_getElem?_getD,List.getElem?_append_right (Nat.le_refl _),Nat.sub_self];rfl
theorem YM {q:Rat}{cs:List Ch}{x:Ch}(h:okA q cs)(hx:apC (trA q cs).1 (trA q cs).2.1 (trA q cs).2.2 x=0):okA q (cs++[x]):=by
 intro i hi;rw[List.length_append,List.length_singleton] at hi;by_cases e:i=cs.length
 ·rw[e,Aai,List.take_left]
  exact hx
 ·rw[List.take_append_of_le_length (by omega),Aah (by omega)]
  exact h i (by omega)
theorem Abm {q:Rat}(hq:okc q=true){cs:List Ch}(h:okA q cs) : ∀ i,i≤cs.length→tvc (trA q (cs.take i)).1 (trA q (cs.take i)).2.1 (trA q (cs.take i)).2.2=0
 | 0,_=>P5.2 ⟨0,Yv hq⟩
 | i+1,hi=>by
  rw[Ff (by omega),M7]
  exact (Aau (h i (by omega))).2.2.2
theorem Acd (n:Int):Lq (Q5 n).q 12:=by
 have h0:Lq 0 12:=⟨FM 12,Ft (by omega),by omega⟩
 unfold Q5;split
 ·exact Sb _
 ·split
  ·exact h0
  ·split
   ·exact h0
   ·exact h0
theorem Zd (cs:List Ch)(x:Ch)(h:(Bm x).2=0):GU (jby cs) x=(jby (cs++[x]),0):=by
 unfold GU;rw[if_pos h,Mm,Ml]
end Go.Proofs.YtdgbealknnmkoaaGreatDoor
