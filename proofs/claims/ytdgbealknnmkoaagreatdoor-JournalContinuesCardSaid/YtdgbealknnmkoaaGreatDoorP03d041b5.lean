/- Texts of one proof, put together by a program: each lemma is proved for all values of its variables, under the premises that it states. -/
import Derived.Test.YtdgbealknnmkoaaGreatDoorPfdc53316
import Derived.Test.YtdgbealknnmkoaaGreatDoorPbdf229b4
set_option linter.unusedVariables false
set_option linter.unusedSimpArgs false
namespace Go.Proofs.YtdgbealknnmkoaaGreatDoor
open Go Go.RowKit
section
theorem AbB {f:FuncId}{args:List CT}(h:Sp Tryz.prog Aq f args (lb true)){w:World}(hT:Tab w)(hM : ∃ m:Int,w.cell? ⟨0,0,none⟩=some (.int .i64 m)){vs:List Value}(hv:all2 (CT.sem (fun b=>b < w.heap.size) w G0) args vs):Calls Tryz.prog f vs.toArray w (Gw w (.bool true)):=by
 have hlt:0 < w.heap.size:=by
  obtain ⟨m,h2⟩:=hM;rcases Nat.lt_or_ge 0 w.heap.size with h' | h'
  ·exact h'
  ·unfold World.cell? at h2
   rw[Array.getElem?_eq_none h'] at h2;simp at h2
 exact Aa5 h ⟨⟨hT,hT.lt⟩,hM,hlt⟩ hv
end
theorem Qf {q:Rat}{n:Nat}{cs:List Ch}(h:Jok q n cs)(hn:n≤10):(jby cs).length≤10000:=by
 have h1:=Me cs h.enc;have h2:=h.len;omega
section
variable {P:Program}
theorem XN (t:TypeId)(m:Int)(k:Nat)(hm:0≤m)(hk:0 < k) : ∃ i:Nat,i < k∧Bx P (.bin .rem t) [li m,li (k:Int)] (li (i:Int)):=by
 obtain ⟨n,rfl⟩:=Int.eq_ofNat_of_zero_le hm;refine ⟨n % k,Nat.mod_lt _ hk,?_⟩;have:=DJ (P:=P) t (n:Int) (k:Int) (by omega)
 rw[Int.tmod_eq_emod_of_nonneg (by omega)] at this
 exact this
end
section
variable {I:WInv}
theorem Aac (L:List Nd)(f:Bool)(z:Int)(hl:L.length≤2000)(hD:Dn L (L.length - 1))(x:Ch)(h:chE L x≠0)(e j u:Int):SpM Tryz.prog I 80 [(0,some (tbx f z 2)),(1,some (ibx j)),(2,some (nbx true L L.length)),(3,some (ibx u))] [chK true 12 x,ci e,.one (.ptr 0 0),.one (.ptr 1 0),.one (.ptr 3 0)] [(0,some (tbx f z 2)),(1,some (ibx j)),(2,some (nbx true L L.length)),(3,some (ibx u))] (lb false):=by
 have hs:=NK (I:=I) (c:=true) (c':=true) L f z L.length rfl hl hD x h;generalize chE L x=r at *;exact sm 14 [pom [0,2] (hs),pk (AI 32 r 0)]
theorem Acq (L:List Nd)(f:Bool)(z:Int)(hl:L.length≤2000)(hD:Dn L (L.length - 1))(x:Ch)(h:chE L x=0)(e u:Int)(j:Int)(hj:0≤j∧j≤1000000000)(S:List Nd×Bool×Int)(hS:chS L f z x=S):SpM Tryz.prog I 80 [(0,some (tbx f z 2)),(1,some (ibx j)),(2,some (nbx true L L.length)),(3,some (ibx u))] [chK true 12 x,ci e,.one (.ptr 0 0),.one (.ptr 1 0),.one (.ptr 3 0)] [(0,some (tbx S.2.1 S.2.2 2)),(1,some (ibx (j+1))),(2,some (nbx true S.1 S.1.length)),(3,some (ibx e))] (lb true):=by
 have hlen:=Qx L f z x;rw[hS] at hlen;by_cases hk:x.kind=2
 ·have hs:=K3 (I:=I) (c:=true) (c':=true) L f z L.length rfl hl hD x h hk
  rw[if_pos hk] at hlen;rw[←hlen,hS] at hs;exact sm 14 [pom [0,2] (hs),pa,pm ((show Leads I _ ⟨[(1,.i e),(3,.p 1 0),(4,.p 3 0),(10,.o false)],[(0,some ⟨46,none,[.sl 7,.o S.2.1,.i S.2.2]⟩),(1,some ⟨3,none,[.i j]⟩),(3,some ⟨3,none,[.i u]⟩),(7,some ⟨103,some (9,(S.1).length),Aa ((S.1).map (Ac true))⟩)],9⟩ ⟨[(1,.i e),(3,.p 1 0),(4,.p 3 0),(10,.o false)],[(0,some ⟨46,none,[.sl 2,.o S.2.1,.i S.2.2]⟩),(1,some ⟨3,none,[.i j]⟩),(3,some ⟨3,none,[.i u]⟩),(2,some ⟨103,some (9,(S.1).length),Aa ((S.1).map (Ac true))⟩)],9⟩ from AL [(2,7)] ⟨rfl,TVle.refl,rfl,TVle.refl,rfl,TVle.refl,rfl,TVle.refl,trivial⟩ ⟨rfl,rfl,rfl,ILe.refl,rfl,rfl,rfl,ILe.refl,rfl,rfl,rfl,ILe.refl,rfl,rfl,rfl,ILe.refl,trivial⟩)),pk (Ay 3 j 1 ⟨by omega,by omega⟩)]
 ·have hs:=LE (I:=I) (c:=true) (c':=true) L f z L.length rfl hl x h hk
  rw[if_neg hk] at hlen;rw[hS] at hs;have hs:SpM Tryz.prog I 81 [(0,some (tbx f z 1)),(1,some (nbx true L L.length))] [.one (.ptr 0 0),chT true x] [(0,some (tbx S.2.1 S.2.2 1)),(1,some (nbx true S.1 S.1.length))] (li 0):=by rw[hlen];exact hs
  exact sm 14 [pom [0,2] (hs),pa,pk (Ay 3 j 1 ⟨by omega,by omega⟩)]
end
abbrev TT:=List Nd×Bool×Int
def qst (b:List Nat)(a:Int)(T:TT)(j u:Int):Go.Proofs.YtdgbealknnmkoaaGreatDoor.St:=⟨[(0,.t (slI 1 ((b).map (Ah)))),(1,.cv (.one (.clo 80 [(0,0),(1,0),(3,0)]))),(4,.i a)],[(0,some ⟨46,none,[.sl 2,.o T.2.1,.i T.2.2]⟩),(1,some ⟨3,none,[.i j]⟩),(2,some ⟨103,some (9,(T.1).length),Aa ((T.1).map (Ac true))⟩),(3,some ⟨3,none,[.i u]⟩)],50⟩
def SU (T:TT)(j u:Int):Go.Proofs.YtdgbealknnmkoaaGreatDoor.St:=⟨[],[(0,some ⟨46,none,[.sl 2,.o T.2.1,.i T.2.2]⟩),(1,some ⟨3,none,[.i j]⟩),(2,some ⟨103,some (9,(T.1).length),Aa ((T.1).map (Ac true))⟩),(3,some ⟨3,none,[.i u]⟩)],50⟩
theorem Zs {T:TT}{x:Ch}(h:tvc T.1 T.2.1 T.2.2=0):apC T.1 T.2.1 T.2.2 x=chE T.1 x:=by unfold apC;rw[if_neg (fun hh=>hh h)]
theorem Acs (b:List Nat)(hb:B8 b)(hl:b.length≤1000000000)(a:Nat)(T:TT)(hT:tvc T.1 T.2.1 T.2.2=0)(j u:Int)(hj:0≤j∧j≤1000000000)(y:Ch)(e:Nat)(h:jfr b a y e)(hk:Lq y.q 12)(hc:chE T.1 y=0)(S:TT)(hS:chS T.1 T.2.1 T.2.2 y=S) :
  Rnd Tryz.prog Aq 44 (AK Tryz.prog 63 0) (qst b (a:Int) T j u) .normal (qst b (e:Int) S (j+1) (e:Int)):=by
 have hlt:=Qd h;obtain ⟨body,used,h1,h2,h3⟩:=h;have hU:=F3 (I:=Aq) (hb.drop a) (by rw[List.length_drop];omega)
 rw[h1] at hU;have hU:Sp Tryz.prog Aq 26 _ (.tu [c8 7,.t (bI body),ci (used:Int),ci 0]):=hU;have hD:=To h2 hk;have hA:=TJ h3 (by omega)
 obtain ⟨_,t2,_,_,_,t6,_⟩:=DM hT;have hC:=Acq (I:=Aq) T.1 T.2.1 T.2.2 t2 (KG t6).2 y hc (e:Int) u j hj S hS;exact Rnd.nam [(2,90)] (show Rnd _ _ _ _ _ _ ⟨[(0,.t (slI 1 ((b).map (Ah)))),(1,.cv (.one (.clo 80 [(0,0),(1,0),(3,0)]))),(4,.i (e:Int))],[(0,some ⟨46,none,[.sl 90,.o S.2.1,.i S.2.2]⟩),(1,some ⟨3,none,[.i (j+1)]⟩),(90,some ⟨103,some (9,(S.1).length),Aa ((S.1).map (Ac true))⟩),(3,some ⟨3,none,[.i (e:Int)]⟩)],92⟩ from rr [pk (Al 31 5 3 1 ((b).map (Ah)) ((b).length:Int)),pk (Ak 3 (a:Int) ((b).length:Int)),pk (Ea b a _ rfl (by omega)),po (hU),pa,pa,po (hD),pa,pk (hA),pom [0,1,2,3] (hC),pa]) (t:=⟨[(0,.t (slI 1 ((b).map (Ah)))),(1,.cv (.one (.clo 80 [(0,0),(1,0),(3,0)]))),(4,.i (e:Int))],[(0,some ⟨46,none,[.sl 2,.o S.2.1,.i S.2.2]⟩),(1,some ⟨3,none,[.i (j+1)]⟩),(2,some ⟨103,some (9,(S.1).length),Aa ((S.1).map (Ac true))⟩),(3,some ⟨3,none,[.i (e:Int)]⟩)],50⟩) ⟨rfl,TVle.refl,rfl,TVle.refl,rfl,TVle.refl,trivial⟩ ⟨rfl,rfl,rfl,ILe.refl,rfl,rfl,rfl,ILe.refl,rfl,rfl,rfl,ILe.refl,rfl,rfl,rfl,ILe.refl,trivial⟩
theorem Acr (b:List Nat)(hb:B8 b)(hl:b.length≤1000000000)(a:Nat)(T:TT)(hT:tvc T.1 T.2.1 T.2.2=0)(j u:Int)(y:Ch)(e:Nat)(h:jfr b a y e)(hk:Lq y.q 12)(hc:chE T.1 y≠0) :
  Rnd Tryz.prog Aq 44 (AK Tryz.prog 63 0) (qst b (a:Int) T j u) .ret (SU T j u):=by
 have hlt:=Qd h;obtain ⟨body,used,h1,h2,h3⟩:=h;have hU:=F3 (I:=Aq) (hb.drop a) (by rw[List.length_drop];omega)
 rw[h1] at hU;have hU:Sp Tryz.prog Aq 26 _ (.tu [c8 7,.t (bI body),ci (used:Int),ci 0]):=hU;have hD:=To h2 hk;have hA:=TJ h3 (by omega)
 obtain ⟨_,t2,_,_,_,t6,_⟩:=DM hT;have hC:=Aac (I:=Aq) T.1 T.2.1 T.2.2 t2 (KG t6).2 y hc (e:Int) j u;exact Rnd.nam [(2,90)] (show Rnd _ _ _ _ _ _ ⟨[],[(0,some ⟨46,none,[.sl 90,.o T.2.1,.i T.2.2]⟩),(1,some ⟨3,none,[.i j]⟩),(90,some ⟨103,some (9,(T.1).length),Aa ((T.1).map (Ac true))⟩),(3,some ⟨3,none,[.i u]⟩)],92⟩ from rr [pk (Al 31 5 3 1 ((b).map (Ah)) ((b).length:Int)),pk (Ak 3 (a:Int) ((b).length:Int)),pk (Ea b a _ rfl (by omega)),po (hU),pa,pa,po (hD),pa,pk (hA),pom [0,1,2,3] (hC),pa]) (t:=⟨[],[(0,some ⟨46,none,[.sl 2,.o T.2.1,.i T.2.2]⟩),(1,some ⟨3,none,[.i j]⟩),(2,some ⟨103,some (9,(T.1).length),Aa ((T.1).map (Ac true))⟩),(3,some ⟨3,none,[.i u]⟩)],50⟩) trivial ⟨rfl,rfl,rfl,ILe.refl,rfl,rfl,rfl,ILe.refl,rfl,rfl,rfl,ILe.refl,rfl,rfl,rfl,ILe.refl,trivial⟩
theorem XL (b:List Nat)(hb:B8 b)(hl:b.length≤1000000000)(a:Nat)(ha:a≤b.length)(T:TT)(j u:Int)(h : ∀ y e,¬ jfr b a y e) :
  Rnd Tryz.prog Aq 44 (AK Tryz.prog 63 0) (qst b (a:Int) T j u) (.exit 0) (SU T j u)∨Rnd Tryz.prog Aq 44 (AK Tryz.prog 63 0) (qst b (a:Int) T j u) .ret (SU T j u):=by
 by_cases hab:a < b.length
 ·right
  have hU:=F3 (I:=Aq) (hb.drop a) (by rw[List.length_drop];omega)
  have hb8:=Xj (hb.drop a);have hj : ∀ body used,Bz (b.drop a)=(7,body,used,0) → ∀ y,Bs y≠(body,0):=fun body used h1 y h2=>h y _ ⟨body,used,h1,h2,rfl⟩
  generalize Bz (b.drop a)=r at *;obtain ⟨kd,body,used,o⟩:=r;simp only at hU hb8;by_cases ho:o=0
  ·subst ho
   have hU:Sp Tryz.prog Aq 26 _ (.tu [c8 (kd:Int),.t (bI body),ci (used:Int),ci 0]):=hU;by_cases hk7:kd=7
   ·subst hk7
    have hU:Sp Tryz.prog Aq 26 _ (.tu [c8 7,.t (bI body),ci (used:Int),ci 0]):=hU;have hD:=RH hb8 (hj body used rfl);exact Rnd.nam [] (show Rnd _ _ _ _ _ _ ⟨[],[(0,some ⟨46,none,[.sl 2,.o T.2.1,.i T.2.2]⟩),(1,some ⟨3,none,[.i j]⟩),(2,some ⟨103,some (9,(T.1).length),Aa ((T.1).map (Ac true))⟩),(3,some ⟨3,none,[.i u]⟩)],83⟩ from rr [pk (Al 31 5 3 1 ((b).map (Ah)) ((b).length:Int)),pk (Ak 3 (a:Int) ((b).length:Int)),pk (Ea b a _ rfl (by omega)),po (hU),pa,pa,po (hD),pa]) (t:=⟨[],[(0,some ⟨46,none,[.sl 2,.o T.2.1,.i T.2.2]⟩),(1,some ⟨3,none,[.i j]⟩),(2,some ⟨103,some (9,(T.1).length),Aa ((T.1).map (Ac true))⟩),(3,some ⟨3,none,[.i u]⟩)],50⟩) trivial ⟨rfl,rfl,rfl,ILe.refl,rfl,rfl,rfl,ILe.refl,rfl,rfl,rfl,ILe.refl,rfl,rfl,rfl,ILe.refl,trivial⟩
   ·have hq:(!decide ((kd:Int)=7))=true:=by rw[decide_eq_false (by omega)];rfl
    exact Rnd.nam [] (show Rnd _ _ _ _ _ _ ⟨[],[(0,some ⟨46,none,[.sl 2,.o T.2.1,.i T.2.2]⟩),(1,some ⟨3,none,[.i j]⟩),(2,some ⟨103,some (9,(T.1).length),Aa ((T.1).map (Ac true))⟩),(3,some ⟨3,none,[.i u]⟩)],73⟩ from rr [pk (Al 31 5 3 1 ((b).map (Ah)) ((b).length:Int)),pk (Ak 3 (a:Int) ((b).length:Int)),pk (Ea b a _ rfl (by omega)),po (hU),pa,pk (Z3 5 (kd:Int) 7 true hq)]) (t:=⟨[],[(0,some ⟨46,none,[.sl 2,.o T.2.1,.i T.2.2]⟩),(1,some ⟨3,none,[.i j]⟩),(2,some ⟨103,some (9,(T.1).length),Aa ((T.1).map (Ac true))⟩),(3,some ⟨3,none,[.i u]⟩)],50⟩) trivial ⟨rfl,rfl,rfl,ILe.refl,rfl,rfl,rfl,ILe.refl,rfl,rfl,rfl,ILe.refl,rfl,rfl,rfl,ILe.refl,trivial⟩
  ·exact Rnd.nam [] (show Rnd _ _ _ _ _ _ ⟨[],[(0,some ⟨46,none,[.sl 2,.o T.2.1,.i T.2.2]⟩),(1,some ⟨3,none,[.i j]⟩),(2,some ⟨103,some (9,(T.1).length),Aa ((T.1).map (Ac true))⟩),(3,some ⟨3,none,[.i u]⟩)],73⟩ from rr [pk (Al 31 5 3 1 ((b).map (Ah)) ((b).length:Int)),pk (Ak 3 (a:Int) ((b).length:Int)),pk (Ea b a _ rfl (by omega)),po (hU),pk (AI 32 (o:Int) 0)]) (t:=⟨[],[(0,some ⟨46,none,[.sl 2,.o T.2.1,.i T.2.2]⟩),(1,some ⟨3,none,[.i j]⟩),(2,some ⟨103,some (9,(T.1).length),Aa ((T.1).map (Ac true))⟩),(3,some ⟨3,none,[.i u]⟩)],50⟩) trivial ⟨rfl,rfl,rfl,ILe.refl,rfl,rfl,rfl,ILe.refl,rfl,rfl,rfl,ILe.refl,rfl,rfl,rfl,ILe.refl,trivial⟩
 ·left
  exact Rnd.nam [] (show Rnd _ _ _ _ _ _ ⟨[],[(0,some ⟨46,none,[.sl 2,.o T.2.1,.i T.2.2]⟩),(1,some ⟨3,none,[.i j]⟩),(2,some ⟨103,some (9,(T.1).length),Aa ((T.1).map (Ac true))⟩),(3,some ⟨3,none,[.i u]⟩)],54⟩ from rr [pk (Al 31 5 3 1 ((b).map (Ah)) ((b).length:Int)),pk (Ai 3 (a:Int) ((b).length:Int))]) (t:=⟨[],[(0,some ⟨46,none,[.sl 2,.o T.2.1,.i T.2.2]⟩),(1,some ⟨3,none,[.i j]⟩),(2,some ⟨103,some (9,(T.1).length),Aa ((T.1).map (Ac true))⟩),(3,some ⟨3,none,[.i u]⟩)],50⟩) trivial ⟨rfl,rfl,rfl,ILe.refl,rfl,rfl,rfl,ILe.refl,rfl,rfl,rfl,ILe.refl,rfl,rfl,rfl,ILe.refl,trivial⟩
structure Upto (q:Rat) (cs:List Ch) (m:Nat):Prop where
 le:m≤cs.length
 ok:okA q (cs.take m)
 no:m < cs.length→apC (trA q (cs.take m)).1 (trA q (cs.take m)).2.1 (trA q (cs.take m)).2.2 (cat cs m)≠0
theorem Ln {cs:List Ch}{m i:Nat}(hi:i < m)(hm:m≤cs.length):cat (cs.take m) i=cat cs i:=by
 have a:=Ds (L:=cs.take m) (i:=i) (by rw[List.length_take];omega)
 rw[List.getElem?_take,if_pos hi,Ds (by omega)] at a
 injection a with a;exact a.symm
theorem Upto.step {q:Rat}{cs:List Ch}{m:Nat}(h:Upto q cs m){i:Nat}(hi:i < m):apC (trA q (cs.take i)).1 (trA q (cs.take i)).2.1 (trA q (cs.take i)).2.2 (cat cs i)=0:=by
 have h2:=h.le;have:=h.ok i (by rw[List.length_take];omega)
 rw[List.take_take,Nat.min_eq_left (by omega),Ln hi h2] at this
 exact this
theorem Upto.tvc {q:Rat}(hq:okc q=true){cs:List Ch}{m:Nat}(h:Upto q cs m){i:Nat}(hi:i≤m):Go.Proofs.YtdgbealknnmkoaaGreatDoor.tvc (trA q (cs.take i)).1 (trA q (cs.take i)).2.1 (trA q (cs.take i)).2.2=0:=by
 have h2:=h.le;have:=Hq hq h.ok i (by rw[List.length_take];omega)
 rw[List.take_take,Nat.min_eq_left (by omega)] at this
 exact this
theorem XM (b:List Nat)(hb:B8 b)(hl:b.length≤1000000000){cs:List Ch}{p:Nat→Nat}(hj:Jr b cs p)(h0:p 0=0)(hk : ∀ i,i < cs.length→Lq (cat cs i).q 12)(q:Rat)(hq:okc q=true){m:Nat}(hu:Upto q cs m) :
  LoopTr Tryz.prog Aq 44 (AK Tryz.prog 63 0) (qst b 0 (CS q,false,0) 0 0) (.exit 0) (SU (trA q (cs.take m)) (m:Int) (p m:Int))∨LoopTr Tryz.prog Aq 44 (AK Tryz.prog 63 0) (qst b 0 (CS q,false,0) 0 0) .ret (SU (trA q (cs.take m)) (m:Int) (p m:Int)):=by
 have hm:=hj.mono h0;have hle:=hu.le;have hml:=hm cs.length (Nat.le_refl _);have step : ∀ i,i < m→Rnd Tryz.prog Aq 44 (AK Tryz.prog 63 0) (qst b (p i:Int) (trA q (cs.take i)) (i:Int) (p i:Int)) .normal (qst b (p (i+1):Int) (trA q (cs.take (i+1))) ((i+1:Nat):Int) (p (i+1):Int)):=fun i hi=>by
  have ht:=hu.tvc hq (i:=i) (by omega)
  have ha:=hu.step hi;have hs:=(Z7 ha).2.2.1;rw[Zs ht] at ha;rw[FL (by omega),Gz,hs,show ((i+1:Nat):Int)=(i:Int)+1 by omega]
  exact Acs b hb hl (p i) _ ht _ _ (by omega) (cat cs i) _ (hj.st i (by omega)) (hk i (by omega)) ha _ rfl
 have s0:qst b (p 0:Int) (trA q (cs.take 0)) ((0:Nat):Int) (p 0:Int)=qst b 0 (CS q,false,0) 0 0:=by rw[h0];rfl
 rw[←s0];have hend:Rnd Tryz.prog Aq 44 (AK Tryz.prog 63 0) (qst b (p m:Int) (trA q (cs.take m)) (m:Int) (p m:Int)) (.exit 0) (SU (trA q (cs.take m)) (m:Int) (p m:Int))∨Rnd Tryz.prog Aq 44 (AK Tryz.prog 63 0) (qst b (p m:Int) (trA q (cs.take m)) (m:Int) (p m:Int)) .ret (SU (trA q (cs.take m)) (m:Int) (p m:Int)):=by
  by_cases hlt:m < cs.length
  ·have ht:=hu.tvc hq (i:=m) (Nat.le_refl _)
   have hn:=hu.no hlt;rw[Zs ht] at hn;exact .inr (Acr b hb hl (p m) _ ht _ _ (cat cs m) _ (hj.st m hlt) (hk m hlt) hn)
  ·have e:m=cs.length:=by omega
   have hen:=hj.en;rw[←e] at hen;exact XL b hb hl (p m) (hm m hle).2 _ _ _ hen
 rcases hend with h | h
 ·exact .inl (Bq (by simp) (fun i=>qst b (p i:Int) (trA q (cs.take i)) (i:Int) (p i:Int)) m step h)
 ·exact .inr (Bq (by simp) (fun i=>qst b (p i:Int) (trA q (cs.take i)) (i:Int) (p i:Int)) m step h)
theorem YG (b:List Nat)(hb:B8 b)(hl:b.length≤1000000000){cs:List Ch}{p:Nat→Nat}(hj:Jr b cs p)(h0:p 0=0)(hk : ∀ i,i < cs.length→Lq (cat cs i).q 12)(q:Rat)(hq:okc q=true){m:Nat}(hu:Upto q cs m)(T:TT)(hT:trA q (cs.take m)=T) :
  SpM Tryz.prog Aq 63 [(0,some (tbx false 0 2)),(1,some (ibx 0)),(2,some (nbx true (CS q) (CS q).length)),(3,some (ibx 0))] [.t (bI b),.one (.clo 80 [(0,0),(1,0),(3,0)])] [(0,some (tbx T.2.1 T.2.2 2)),(1,some (ibx (m:Int))),(2,some (nbx true T.1 T.1.length)),(3,some (ibx (p m:Int)))] (.tu []):=by
 have h:=XM b hb hl hj h0 hk q hq hu;rw[hT] at h;generalize (p m:Int)=u at *;generalize (m:Int)=j at *;rcases h with lo | lo
 ·exact sm 44 [pl (lo)]
 ·exact sm 44 [pl (lo)]
section
variable {I:WInv}{c:Bool}
theorem Xn (q:Rat):SpM Tryz.prog I 78 [] [fc c 12 q] [(2,some (nbx true (CS q) (CS q).length))] (.cv (.ag [.sl 2,.o false,.i 0])):=sm 8 [po (Kj (I:=I) (c:=c) (p:=q)),pm ((show Leads I _ ⟨[(2,.p 4 0)],[(8,some ⟨103,some (9,1),[.i (-1),.i 0,.i 0,.o false,.b (.it (fF true 12 q)),.i 0]⟩),(4,some ⟨46,none,[.sl 8,.o false,.i 0]⟩)],11⟩ ⟨[(2,.p 4 0)],[(2,some ⟨103,some (9,1),[.i (-1),.i 0,.i 0,.o false,.b (.it (fF true 12 q)),.i 0]⟩),(4,some ⟨46,none,[.sl 2,.o false,.i 0]⟩)],11⟩ from AL [(2,8)] ⟨rfl,TVle.refl,trivial⟩ ⟨rfl,rfl,rfl,ILe.refl,rfl,rfl,rfl,ILe.refl,trivial⟩))]
theorem XK (b:List Nat)(hb:B8 b)(hl:b.length≤1000000000){cs:List Ch}{p:Nat→Nat}(hj:Jr b cs p)(h0:p 0=0)(hk : ∀ i,i < cs.length→Lq (cat cs i).q 12)(q:Rat)(hq:okc q=true){m:Nat}(hu:Upto q cs m)(T:TT)(hT:trA q (cs.take m)=T) :
  Sp Tryz.prog Aq 30 [fc c 12 q,.t (bI b)] (.tu [trT true T.1 T.2.1 T.2.2,ci (m:Int),ci (p m:Int)]):=by
 have he:=YG b hb hl hj h0 hk q hq hu T hT;have hn:=Xn (I:=Aq) (c:=c) q;have hv0:=Xk (I:=Aq) (c:=true) (CS q) rfl rfl rfl rfl hq;have hv:SpM Tryz.prog Aq 79 [(0,some (nbx true (CS q) (CS q).length))] [.ag [.sl 0,.o false,.i 0]] [(0,some (nbx true (CS q) (CS q).length))] (li 0) :=
  Lp (args:=[.ag [.sl 0,.o false,.i 0]]) hv0 (by rw[List.length_map]) EH rfl GM rfl
 generalize (p m:Int)=u at *;generalize (m:Int)=j at *;have h:SpM Tryz.prog Aq 30 [] [fc c 12 q,.t (bI b)] [(2,some (nbx true T.1 T.1.length))] (.tu [.ag [.sl 2,.o T.2.1,.i T.2.2],ci j,ci u]):=sm 19 [pom [] (hn),pom [8] (hv),pa,pom [4,5,8,6] (he),⟨.part ([.sl 15,.o T.2.1,.i T.2.2]) 0 3 [.sl 15,.o T.2.1,.i T.2.2],rfl⟩,⟨.part ([.i j]) 0 1 [.i j],rfl⟩,⟨.part ([.i u]) 0 1 [.i u],rfl⟩,⟨.upd [.sl 15,.o T.2.1,.i T.2.2] 0 [.sl 15,.o T.2.1,.i T.2.2] [.sl 15,.o T.2.1,.i T.2.2],rfl⟩,⟨.upd [.i j] 0 [.i j] [.i j],rfl⟩,⟨.upd [.i u] 0 [.i u] [.i u],rfl⟩,pm ((show Leads Aq _ ⟨[(4,.p 4 0),(5,.p 5 0),(6,.p 6 0)],[(4,some ⟨46,none,[.sl 15,.o T.2.1,.i T.2.2]⟩),(5,some ⟨3,none,[.i j]⟩),(6,some ⟨3,none,[.i u]⟩),(15,some ⟨103,some (9,(T.1).length),Aa ((T.1).map (Ac true))⟩)],22⟩ ⟨[(4,.p 4 0),(5,.p 5 0),(6,.p 6 0)],[(4,some ⟨46,none,[.sl 2,.o T.2.1,.i T.2.2]⟩),(5,some ⟨3,none,[.i j]⟩),(6,some ⟨3,none,[.i u]⟩),(2,some ⟨103,some (9,(T.1).length),Aa ((T.1).map (Ac true))⟩)],22⟩ from AL [(2,15)] ⟨rfl,TVle.refl,rfl,TVle.refl,rfl,TVle.refl,trivial⟩ ⟨rfl,rfl,rfl,ILe.refl,rfl,rfl,rfl,ILe.refl,rfl,rfl,rfl,ILe.refl,rfl,rfl,rfl,ILe.refl,trivial⟩))];exact h.freeze (by rw[List.length_map]) EH rfl
end
theorem XY {q:Rat}{cs:List Ch}(h:okA q cs){m:Nat}(hm:m≤cs.length):okA q (cs.take m):=by
 intro i hi;rw[List.length_take,Nat.min_eq_left hm] at hi;have:=h i (by omega)
 rw[List.take_take,Nat.min_eq_left (by omega),Ln hi hm]
 exact this
theorem Xh {q:Rat}{cs:List Ch}(h:okA q cs):Upto q cs cs.length:=⟨Nat.le_refl _,by rw[List.take_length];exact h,fun hh=>absurd hh (Nat.lt_irrefl _)⟩
structure Cut (cs ds:List Ch) (b:List Nat) (kk u:Nat):Prop where
 len:ds.length≤cs.length
 take:ds=cs.take ds.length
 use:u≤kk
 full:kk=b.length→ds.length=cs.length
 pos:u=Ek cs ds.length
theorem Zh {q:Rat}{n:Nat}{cs:List Ch}(h:Jok q n cs)(hn:n≤10)(hq:okc q=true)(kk:Nat)(hkk:kk≤(jby cs).length) : ∃ (ds:List Ch) (u:Nat),Cut cs ds (jby cs) kk u∧Sp Tryz.prog Aq 24 [.t (bI ((jby cs).take kk))] (.tu [.t (csI true 12 ds),ci (u:Int)])∧Sp Tryz.prog Aq 30 [fc true 12 q,.t (bI ((jby cs).take kk))] (.tu [trT true (trA q ds).1 (trA q ds).2.1 (trA q ds).2.2,ci (ds.length:Int),ci (u:Int)])∧okA q ds:=by
 obtain ⟨m,m1,m2,m3⟩:=AdP cs kk;have hj:=Tl cs h.enc kk m m1 m2 m3;have hlen:(cs.take m).length=m:=by rw[List.length_take];omega
 have hb:B8 ((jby cs).take kk):=(Ld cs).take kk;have hl:((jby cs).take kk).length≤1000000000:=by have:=Qf h hn;rw[List.length_take];omega
 have hlq : ∀ i,i < (cs.take m).length→Lq (cat (cs.take m) i).q 12:=fun i hi=>h.lq _ (List.mem_of_mem_take (List.mem_of_getElem? (Ds hi)))
 have hok:=XY h.ap m1;have r1:=SP (k:=12) _ hb hl hj (Hr cs) hlq;have r2:=XK (c:=true) _ hb hl hj (Hr cs) hlq q hq (Xh hok) _ rfl;rw[List.take_length] at r2;refine ⟨cs.take m,Ek cs (cs.take m).length,⟨by omega,by rw[hlen],by rw[hlen];exact m2,fun e => ?_,rfl⟩,r1,r2,hok⟩
 rw[hlen];by_cases hlt:m < cs.length
 ·have:=m3 hlt
  have hmono:=Lc (cs:=cs) (i:=m+1) (j:=cs.length) (by omega) (Nat.le_refl _)
  rw[Kb] at hmono;omega
 ·omega
theorem AaT {c:Bool}{k:Nat}(cs ds:List Ch)(hl:ds.length≤cs.length)(he:ds=cs.take ds.length):Bx Tryz.prog (.slc 39 false true false) [tit (csI c k cs),li (ds.length:Int)] (tit (csI c k ds)):=by
 have:=QR (P:=Tryz.prog) 39 28 9 (cs.map (Bb c k)) ds.length (ds.length:Int) rfl (by rw[List.length_map];exact hl) (by kernel_rfl) (by kernel_rfl)
 rw[←List.map_take,←he] at this;exact this
def Zi (cs ds:List Ch)(b:List Nat)(q:Rat)(kk u:Nat)(T:TT)(i:Int):Go.Proofs.YtdgbealknnmkoaaGreatDoor.St:=⟨[(5,.t (slI 9 ((cs).map (Bb false 12)))),(6,.t (slI 1 ((b).map (Ah)))),(8,.p 14 0),(9,.i (kk:Int)),(10,.t (slI 9 ((ds).map (Bb true 12)))),(11,.i (u:Int)),(12,.p 66 0),(13,.i i)],[(14,some ⟨26,none,[.b (.it (fF true 12 q))]⟩),(66,some ⟨46,none,[.b (.it (slI 9 ((T.1).map (Ac true)))),.o T.2.1,.i T.2.2]⟩)],90⟩
theorem T9 (cs ds:List Ch)(b:List Nat)(q:Rat)(hq:okc q=true)(kk u:Nat)(hl:ds.length≤cs.length)(ht:ds=cs.take ds.length)(hok:okA q ds)(hcl:cs.length≤1000000)(T:TT)(hT:trA q ds=T) :
  LoopTr Tryz.prog Aq 114 (AK Tryz.prog 8 0) (Zi cs ds b q kk u (CS q,false,0) ((0:Nat):Int)) (.exit 0) ⟨[(6,.t (slI 1 ((b).map (Ah)))),(8,.p 14 0),(9,.i (kk:Int)),(10,.t (slI 9 ((ds).map (Bb true 12)))),(11,.i (u:Int)),(12,.p 66 0)],[(14,some ⟨26,none,[.b (.it (fF true 12 q))]⟩),(66,some ⟨46,none,[.b (.it (slI 9 ((T.1).map (Ac true)))),.o T.2.1,.i T.2.2]⟩)],90⟩:=by
 refine Bq (by simp) (fun i=>Zi cs ds b q kk u (trA q (ds.take i)) (i:Int)) ds.length (fun i hi => ?_) ?_
 ·have h0:=Hq hq hok i (by omega)
  have ha:=hok i hi;have ec:cat ds i=cat cs i:=by
   have:=Ln (cs:=cs) hi hl;rw[←ht] at this;exact this
  rw[ec] at ha;have hi2:i < cs.length:=by omega
  show Rnd Tryz.prog Aq _ _ (Zi cs ds b q kk u (trA q (ds.take i)) (i:Int)) _ (Zi cs ds b q kk u (trA q (ds.take (i+1))) ((i+1:Nat):Int));rw[FL hi,Gz,ec,show ((i+1:Nat):Int)=(i:Int)+1 by omega]
  generalize trA q (ds.take i)=T at *;have hap:=O6 (I:=Aq) (c:=true) (c':=false) T.1 T.2.1 T.2.2 (by have:=(DM h0).2.1;omega) (cat cs i)
  rw[ha] at hap;generalize apS T.1 T.2.1 T.2.2 (cat cs i)=S at *;exact Rnd.nam [] (show Rnd _ _ _ _ _ _ ⟨[(5,.t (slI 9 ((cs).map (Bb false 12)))),(6,.t (slI 1 ((b).map (Ah)))),(8,.p 14 0),(9,.i (kk:Int)),(10,.t (slI 9 ((ds).map (Bb true 12)))),(11,.i (u:Int)),(12,.p 66 0),(13,.i ((i:Int)+1))],[(14,some ⟨26,none,[.b (.it (fF true 12 q))]⟩),(66,some ⟨46,none,[.b (.it (slI 9 ((S.1).map (Ac true)))),.o S.2.1,.i S.2.2]⟩)],107⟩ from rr [pk (Al 39 28 3 9 ((ds).map (Bb true 12)) ((ds).length:Int)),pk (Ak 3 (i:Int) ((ds).length:Int)),pk (Aj 39 28 9 ((cs).map (Bb false 12)) i (i:Int) ((Bb false 12) (cat cs i)) (Du hi2)),po (hap),pk (Ay 3 (i:Int) 1 ⟨by omega,by omega⟩)]) (t:=⟨[(5,.t (slI 9 ((cs).map (Bb false 12)))),(6,.t (slI 1 ((b).map (Ah)))),(8,.p 14 0),(9,.i (kk:Int)),(10,.t (slI 9 ((ds).map (Bb true 12)))),(11,.i (u:Int)),(12,.p 66 0),(13,.i ((i:Int)+1))],[(14,some ⟨26,none,[.b (.it (fF true 12 q))]⟩),(66,some ⟨46,none,[.b (.it (slI 9 ((S.1).map (Ac true)))),.o S.2.1,.i S.2.2]⟩)],90⟩) ⟨rfl,TVle.refl,rfl,TVle.refl,rfl,TVle.refl,rfl,TVle.refl,rfl,TVle.refl,rfl,TVle.refl,rfl,TVle.refl,rfl,TVle.refl,trivial⟩ ⟨rfl,rfl,rfl,ILe.refl,rfl,rfl,rfl,ILe.refl,trivial⟩
 ·show Rnd Tryz.prog Aq _ _ (Zi cs ds b q kk u (trA q (ds.take ds.length)) (ds.length:Int)) _ _
  rw[List.take_length,hT];exact Rnd.nam [] (show Rnd _ _ _ _ _ _ ⟨[(6,.t (slI 1 ((b).map (Ah)))),(8,.p 14 0),(9,.i (kk:Int)),(10,.t (slI 9 ((ds).map (Bb true 12)))),(11,.i (u:Int)),(12,.p 66 0)],[(14,some ⟨26,none,[.b (.it (fF true 12 q))]⟩),(66,some ⟨46,none,[.b (.it (slI 9 ((T.1).map (Ac true)))),.o T.2.1,.i T.2.2]⟩)],94⟩ from rr [pk (Al 39 28 3 9 ((ds).map (Bb true 12)) ((ds).length:Int)),pk (Ai 3 ((ds).length:Int) ((ds).length:Int))]) (t:=⟨[(6,.t (slI 1 ((b).map (Ah)))),(8,.p 14 0),(9,.i (kk:Int)),(10,.t (slI 9 ((ds).map (Bb true 12)))),(11,.i (u:Int)),(12,.p 66 0)],[(14,some ⟨26,none,[.b (.it (fF true 12 q))]⟩),(66,some ⟨46,none,[.b (.it (slI 9 ((T.1).map (Ac true)))),.o T.2.1,.i T.2.2]⟩)],90⟩) ⟨rfl,TVle.refl,rfl,TVle.refl,rfl,TVle.refl,rfl,TVle.refl,rfl,TVle.refl,rfl,TVle.refl,trivial⟩ ⟨rfl,rfl,rfl,ILe.refl,rfl,rfl,rfl,ILe.refl,trivial⟩
theorem Sk (l:List Int)(hl:l.length≤35184372087808)(n:Int):Sp Tryz.prog Aq 8 [.t (slI 1 (l.map Ae)),ci n] (lb true):=by
 have hj:=U6 (I:=Aq) l hl;have hok:=Yq l;have hbl:=Qf hok (Nat.le_refl _);have hb:=Ld (jnS l);have hq:=Nt (atS l 0);have ha:=UW (I:=Aq) l 0 (by omega) hl
 have hf:=Mf (I:=Aq) (atS l 0);have hnw:=Uj (I:=Aq) (c:=true) (BB (atS l 0));have hcl:=hok.len;generalize atS l 0=a0 at *;generalize BB a0=q at *;have hln:=DB n 1023 (by omega) (by omega)
 obtain ⟨kk,hkk,hrem⟩:=XN (P:=Tryz.prog) 3 (BS n 1023) ((jby (jnS l)).length+1) (by omega) (by omega)
 obtain ⟨ds,u,⟨c1,c2,c3,c4,c5⟩,hr,hrp,hokd⟩:=Zh hok (Nat.le_refl _) hq kk (by omega)
 generalize trA q (jnS l)=E at *;generalize jby (jnS l)=b at *;generalize jnS l=cs at *;clear c5;have htk:=AaT (c:=false) (k:=12) cs ds c1 c2;have hch:=WO (I:=Aq) (c:=false) (k:=12) (j:=12) ds (by omega) (by omega) (by omega)
 have hTl:=(DM (Hq hq hokd ds.length (Nat.le_refl _))).2.1;rw[List.take_length] at hTl;have hsm:=QW (I:=Aq) (trA q ds).1 (trA q ds).2.1 (trA q ds).2.2 (by omega)
 have lo:=T9 cs ds b q hq kk u c1 c2 hokd (by omega) _ rfl
 generalize trA q ds=T at *;by_cases hfull:kk=b.length
 ·have hdl:=c4 hfull
  exact sr 114 [po (hj),po (ha),po (hf),pk (Fq 3 n 1023),pk (Al 31 5 3 1 ((b).map (Ah)) ((b).length:Int)),pk (Ay 3 ((b).length:Int) 1 ⟨by omega,by omega⟩),pk (hrem),pk (Gr b kk _ rfl (by omega)),po (hr),pk (Al 39 28 3 9 ((ds).map (Bb true 12)) ((ds).length:Int)),pk (Al 39 28 3 9 ((cs).map (Bb false 12)) ((cs).length:Int)),pk (Au 3 ((ds).length:Int) ((cs).length:Int)),pk (Au 3 (u:Int) (kk:Int)),pk (Al 39 28 3 9 ((ds).map (Bb true 12)) ((ds).length:Int)),pk (htk),po (hch),pa,pk (Al 31 5 3 1 ((b).map (Ah)) ((b).length:Int)),pk (Ar 3 (kk:Int) ((b).length:Int)),pk (Al 39 28 3 9 ((ds).map (Bb true 12)) ((ds).length:Int)),pk (Al 39 28 3 9 ((cs).map (Bb false 12)) ((cs).length:Int)),pk (Ao 3 ((ds).length:Int) ((cs).length:Int)),po (hnw),pl (lo),pk (Gr b kk _ rfl (by omega)),po (hrp),pk (Al 39 28 3 9 ((ds).map (Bb true 12)) ((ds).length:Int)),pk (AO 3 (ds.length:Int) ((ds).length:Int) true (decide_eq_true rfl)),pk (AO 3 (u:Int) (u:Int) true (decide_eq_true rfl)),po (hsm),po (Qc)]
 ·exact sr 114 [po (hj),po (ha),po (hf),pk (Fq 3 n 1023),pk (Al 31 5 3 1 ((b).map (Ah)) ((b).length:Int)),pk (Ay 3 ((b).length:Int) 1 ⟨by omega,by omega⟩),pk (hrem),pk (Gr b kk _ rfl (by omega)),po (hr),pk (Al 39 28 3 9 ((ds).map (Bb true 12)) ((ds).length:Int)),pk (Al 39 28 3 9 ((cs).map (Bb false 12)) ((cs).length:Int)),pk (Au 3 ((ds).length:Int) ((cs).length:Int)),pk (Au 3 (u:Int) (kk:Int)),pk (Al 39 28 3 9 ((ds).map (Bb true 12)) ((ds).length:Int)),pk (htk),po (hch),pa,pk (Al 31 5 3 1 ((b).map (Ah)) ((b).length:Int)),pk (Ag 3 (kk:Int) ((b).length:Int)),po (hnw),pl (lo),pk (Gr b kk _ rfl (by omega)),po (hrp),pk (Al 39 28 3 9 ((ds).map (Bb true 12)) ((ds).length:Int)),pk (AO 3 (ds.length:Int) ((ds).length:Int) true (decide_eq_true rfl)),pk (AO 3 (u:Int) (u:Int) true (decide_eq_true rfl)),po (hsm),po (Qc)]
theorem Jw (w:World){v:Value}{l:List Int}(h1:ZD w v l)(n:Int)(hn:(Lit.int .i64 n).wf=true)(hT:Tab w)(hM : ∃ m:Int,w.cell? ⟨0,0,none⟩=some (.int .i64 m)):Calls Tryz.prog 8 #[v,.int .i64 n] w (Gw w (.bool true)) :=
 AbB (Sk l h1.1 n) hT hM ⟨_,_,rfl,h1.2,_,_,rfl,rfl,rfl⟩
def ost (cs:List Ch)(b:List Nat)(E T:TT)(c:List Nat)(i:Int):Go.Proofs.YtdgbealknnmkoaaGreatDoor.St:=⟨[(5,.t (slI 9 ((cs).map (Bb false 12)))),(6,.t (slI 1 ((b).map (Ah)))),(7,.p 7 0),(9,.p 30 0),(12,.t (slI 1 ((c).map (Ah)))),(13,.i i)],[(7,some ⟨46,none,[.b (.it (slI 9 ((E.1).map (Ac true)))),.o E.2.1,.i E.2.2]⟩),(30,some ⟨46,none,[.b (.it (slI 9 ((T.1).map (Ac true)))),.o T.2.1,.i T.2.2]⟩)],90⟩
theorem WJ (cs:List Ch)(b:List Nat)(q:Rat)(hq:okc q=true)(hok:Jok q 10 cs)(hbc:jby cs=b)(E:TT)(hE:trA q cs=E)(m:Nat)(hm:m≤cs.length) :
  LoopTr Tryz.prog Aq 99 (AK Tryz.prog 10 0) (ost cs b E (trA q (cs.take m)) (jby (cs.take m)) (m:Int)) (.exit 0) ⟨[(6,.t (slI 1 ((b).map (Ah)))),(7,.p 7 0),(9,.p 30 0),(12,.t (slI 1 ((b).map (Ah))))],[(7,some ⟨46,none,[.b (.it (slI 9 ((E.1).map (Ac true)))),.o E.2.1,.i E.2.2]⟩),(30,some ⟨46,none,[.b (.it (slI 9 ((E.1).map (Ac true)))),.o E.2.1,.i E.2.2]⟩)],90⟩:=by
 refine OE (by simp) (fun i=>ost cs b E (trA q (cs.take i)) (jby (cs.take i)) (i:Int)) m cs.length hm (fun i _ hi => ?_) ?_
 ·have h0:=Hq hq hok.ap i (by omega)
  have ha:=hok.ap i hi;have he:=hok.enc _ (List.mem_of_getElem? (Ds hi));have hcl:=hok.len;show Rnd Tryz.prog Aq _ _ (ost cs b E (trA q (cs.take i)) (jby (cs.take i)) (i:Int)) _ (ost cs b E (trA q (cs.take (i+1))) (jby (cs.take (i+1))) ((i+1:Nat):Int));have hsn:=RI (cs.take i) (cat cs i) he;have hlb:=Me (cs.take i) (fun x hx=>hok.enc x (List.mem_of_mem_take hx))
  rw[List.length_take] at hlb;have hje:=(S5 (c:=false) (k:=12) (jby (cs.take i)) (by omega) (cat cs i) (by omega)).inv SD
  rw[hsn] at hje;rw[FL hi,Gz,show ((i+1:Nat):Int)=(i:Int)+1 by omega]
  generalize trA q (cs.take i)=T at *;have hap:=Vs (I:=Aq) (c:=true) (c':=false) T.1 T.2.1 T.2.2 (by have:=(DM h0).2.1;omega) (cat cs i)
  rw[ha] at hap;generalize apS T.1 T.2.1 T.2.2 (cat cs i)=S at *;generalize jby (cs.take i++[cat cs i])=c2 at *;generalize jby (cs.take i)=c at *;exact Rnd.nam [] (show Rnd _ _ _ _ _ _ ⟨[(5,.t (slI 9 ((cs).map (Bb false 12)))),(6,.t (slI 1 ((b).map (Ah)))),(7,.p 7 0),(9,.p 30 0),(12,.t (slI 1 ((c2).map (Ah)))),(13,.i ((i:Int)+1))],[(7,some ⟨46,none,[.b (.it (slI 9 ((E.1).map (Ac true)))),.o E.2.1,.i E.2.2]⟩),(30,some ⟨46,none,[.b (.it (slI 9 ((S.1).map (Ac true)))),.o S.2.1,.i S.2.2]⟩)],130⟩ from rr [pk (Al 39 28 3 9 ((cs).map (Bb false 12)) ((cs).length:Int)),pk (Ak 3 (i:Int) ((cs).length:Int)),pk (Aj 39 28 9 ((cs).map (Bb false 12)) i (i:Int) ((Bb false 12) (cat cs i)) (Du hi)),po (hap),pk (Aj 39 28 9 ((cs).map (Bb false 12)) i (i:Int) ((Bb false 12) (cat cs i)) (Du hi)),po (hje),pa,pa,pk (Ay 3 (i:Int) 1 ⟨by omega,by omega⟩)]) (t:=⟨[(5,.t (slI 9 ((cs).map (Bb false 12)))),(6,.t (slI 1 ((b).map (Ah)))),(7,.p 7 0),(9,.p 30 0),(12,.t (slI 1 ((c2).map (Ah)))),(13,.i ((i:Int)+1))],[(7,some ⟨46,none,[.b (.it (slI 9 ((E.1).map (Ac true)))),.o E.2.1,.i E.2.2]⟩),(30,some ⟨46,none,[.b (.it (slI 9 ((S.1).map (Ac true)))),.o S.2.1,.i S.2.2]⟩)],90⟩) ⟨rfl,TVle.refl,rfl,TVle.refl,rfl,TVle.refl,rfl,TVle.refl,rfl,TVle.refl,rfl,TVle.refl,trivial⟩ ⟨rfl,rfl,rfl,ILe.refl,rfl,rfl,rfl,ILe.refl,trivial⟩
 ·show Rnd Tryz.prog Aq _ _ (ost cs b E (trA q (cs.take cs.length)) (jby (cs.take cs.length)) (cs.length:Int)) _ _
  rw[List.take_length,hE,hbc];have hcl:=hok.len;exact Rnd.nam [] (show Rnd _ _ _ _ _ _ ⟨[(6,.t (slI 1 ((b).map (Ah)))),(7,.p 7 0),(9,.p 30 0),(12,.t (slI 1 ((b).map (Ah))))],[(7,some ⟨46,none,[.b (.it (slI 9 ((E.1).map (Ac true)))),.o E.2.1,.i E.2.2]⟩),(30,some ⟨46,none,[.b (.it (slI 9 ((E.1).map (Ac true)))),.o E.2.1,.i E.2.2]⟩)],94⟩ from rr [pk (Al 39 28 3 9 ((cs).map (Bb false 12)) ((cs).length:Int)),pk (Ai 3 ((cs).length:Int) ((cs).length:Int))]) (t:=⟨[(6,.t (slI 1 ((b).map (Ah)))),(7,.p 7 0),(9,.p 30 0),(12,.t (slI 1 ((b).map (Ah))))],[(7,some ⟨46,none,[.b (.it (slI 9 ((E.1).map (Ac true)))),.o E.2.1,.i E.2.2]⟩),(30,some ⟨46,none,[.b (.it (slI 9 ((E.1).map (Ac true)))),.o E.2.1,.i E.2.2]⟩)],90⟩) ⟨rfl,TVle.refl,rfl,TVle.refl,rfl,TVle.refl,rfl,TVle.refl,trivial⟩ ⟨rfl,rfl,rfl,ILe.refl,rfl,rfl,rfl,ILe.refl,trivial⟩
theorem Of (l:List Int)(hl:l.length≤35184372087808)(n:Int):Sp Tryz.prog Aq 10 [.t (slI 1 (l.map Ae)),ci n] (lb true):=by
 have hj:=U6 (I:=Aq) l hl;have hok:=Yq l;have hbl:=Qf hok (Nat.le_refl _);have hb:=Ld (jnS l);have hq:=Nt (atS l 0);have ha:=UW (I:=Aq) l 0 (by omega) hl
 have hf:=Mf (I:=Aq) (atS l 0);have hcl:=hok.len;generalize atS l 0=a0 at *;generalize BB a0=q at *;have hln:=DB n 1023 (by omega) (by omega)
 obtain ⟨kk,hkk,hrem⟩:=XN (P:=Tryz.prog) 3 (BS n 1023) ((jby (jnS l)).length+1) (by omega) (by omega)
 obtain ⟨ds,u,⟨c1,c2,c3,c4,c5⟩,hr,hrp,hokd⟩:=Zh hok (Nat.le_refl _) hq kk (by omega)
 have hTl:=(DM (Hq hq hok.ap (jnS l).length (Nat.le_refl _))).2.1;rw[List.take_length] at hTl;have hsm:=QW (I:=Aq) (trA q (jnS l)).1 (trA q (jnS l)).2.1 (trA q (jnS l)).2.2 (by omega)
 have heq:=AaG (I:=Aq) (jby (jnS l)) hb;have lo:=WJ (jnS l) (jby (jnS l)) q hq hok rfl (trA q (jnS l)) rfl ds.length c1;rw[←c2] at lo;have hu:(jby (jnS l)).take u=jby ds:=by
  have:jby (jnS l)=jby ((jnS l).take ds.length)++jby ((jnS l).drop ds.length):=by rw[←Kd,List.take_append_drop]
  rw[this,c5,←c2];unfold Ek;rw[←c2];exact List.take_left
 have htk:=Gr (jby (jnS l)) u (u:Int) rfl (by omega)
 rw[hu] at htk;have hclen:(jby ds).length≤1000000:=by rw[←hu,List.length_take];omega
 generalize trA q (jnS l)=E at *;generalize trA q ds=T at *;generalize jby ds=c at *;clear hu c5 hr hok c2;generalize hjd:ds.length=j at *;generalize jby (jnS l)=b at *;generalize jnS l=cs at *;exact sr 99 [po (hj),po (ha),po (hf),pk (Fq 3 n 1023),pk (Al 31 5 3 1 ((b).map (Ah)) ((b).length:Int)),pk (Ay 3 ((b).length:Int) 1 ⟨by omega,by omega⟩),pk (hrem),pk (Gr b kk _ rfl (by omega)),po (hrp),pk (Al 39 28 3 9 ((cs).map (Bb false 12)) ((cs).length:Int)),pk (Au 3 (j:Int) ((cs).length:Int)),pk (Al 31 5 3 1 ((b).map (Ah)) ((b).length:Int)),pk (Au 3 (u:Int) ((b).length:Int)),pk (htk),⟨.src 1 (bI c) ((c).map Ah).length ((c).map Ah).flatten,Cg Bp (AZ _)⟩,⟨.ap 0 (((c).map Ah).length) 1,⟨by simp only[List.length_map] <;> omega,by simp only[List.length_map,maxLen] <;> omega⟩⟩,pm (AX (I:=Aq) (t:=12) (k:=47) (E:=[(5,.t (slI 9 ((cs).map (Bb false 12)))),(6,.t (slI 1 ((b).map (Ah)))),(7,.p 7 0),(9,.p 30 0),(10,.i (j:Int))]) (B:=[(7,some ⟨46,none,[.b (.it (slI 9 ((E.1).map (Ac true)))),.o E.2.1,.i E.2.2]⟩),(30,some ⟨46,none,[.b (.it (slI 9 ((T.1).map (Ac true)))),.o T.2.1,.i T.2.2]⟩)]) (nx:=49) (T:=5) (sz:=1) (n:=(((c).map Ah).length)) ((c).map Ah) rfl rfl Bp rfl),pl (lo),po (hsm),po (heq),po (Qc)]
theorem GO (w:World){v:Value}{l:List Int}(h1:ZD w v l)(n:Int)(hn:(Lit.int .i64 n).wf=true)(hT:Tab w)(hM : ∃ m:Int,w.cell? ⟨0,0,none⟩=some (.int .i64 m)):Calls Tryz.prog 10 #[v,.int .i64 n] w (Gw w (.bool true)) :=
 AbB (Of l h1.1 n) hT hM ⟨_,_,rfl,h1.2,_,_,rfl,rfl,rfl⟩
end Go.Proofs.YtdgbealknnmkoaaGreatDoor
