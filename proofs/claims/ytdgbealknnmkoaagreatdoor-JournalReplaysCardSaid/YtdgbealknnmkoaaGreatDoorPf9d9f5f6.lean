/- Texts of one proof, put together by a program: each lemma is proved for all values of its variables, under the premises that it states. -/
import Derived.Test.YtdgbealknnmkoaaGreatDoorP1cf0f822
import Derived.Test.YtdgbealknnmkoaaGreatDoorP09dfbd70
set_option linter.unusedVariables false
set_option linter.unusedSimpArgs false
namespace Go.Proofs.YtdgbealknnmkoaaGreatDoor
open Go Go.RowKit
section
theorem AeD {f:FuncId}{args:List CT}(h:Sp Tryz.prog Ao f args (lb true)){w:World}(hT:Tab w)(hM : ∃ m:Int,w.cell? ⟨0,0,none⟩=some (.int .i64 m)){vs:List Value}(hv:all2 (CT.sem (fun b=>b < w.heap.size) w G0) args vs):Calls Tryz.prog f vs.toArray w (Hl w (.bool true)):=by
 have hlt:0 < w.heap.size:=by
  obtain ⟨m,h2⟩:=hM;rcases Nat.lt_or_ge 0 w.heap.size with h' | h'
  ·exact h'
  ·unfold World.cell? at h2
   rw[Array.getElem?_eq_none h'] at h2;simp at h2
 exact Aby h ⟨⟨hT,hT.lt⟩,hM,hlt⟩ hv
end
section
variable {I:WInv}
theorem AaV (L:List Nd)(f:Bool)(z:Int)(hl:L.length≤2000)(hD:Dn L (L.length - 1))(x:Ch)(h:chE L x≠0)(e j u:Int):SpM Tryz.prog I 80 [(0,some (tbx f z 2)),(1,some (ibx j)),(2,some (nbx true L L.length)),(3,some (ibx u))] [chK true 12 x,ci e,.one (.ptr 0 0),.one (.ptr 1 0),.one (.ptr 3 0)] [(0,some (tbx f z 2)),(1,some (ibx j)),(2,some (nbx true L L.length)),(3,some (ibx u))] (lb false):=by
 have hs:=TQ (I:=I) (c:=true) (c':=true) L f z L.length rfl hl hD x h;generalize chE L x=r at *;exact sm 14 [pom [0,2] (hs),pk (AO 32 r 0)]
theorem Adq (L:List Nd)(f:Bool)(z:Int)(hl:L.length≤2000)(hD:Dn L (L.length - 1))(x:Ch)(h:chE L x=0)(e u:Int)(j:Int)(hj:0≤j∧j≤1000000000)(S:List Nd×Bool×Int)(hS:chS L f z x=S):SpM Tryz.prog I 80 [(0,some (tbx f z 2)),(1,some (ibx j)),(2,some (nbx true L L.length)),(3,some (ibx u))] [chK true 12 x,ci e,.one (.ptr 0 0),.one (.ptr 1 0),.one (.ptr 3 0)] [(0,some (tbx S.2.1 S.2.2 2)),(1,some (ibx (j+1))),(2,some (nbx true S.1 S.1.length)),(3,some (ibx e))] (lb true):=by
 have hlen:=Vd L f z x;rw[hS] at hlen;by_cases hk:x.kind=2
 ·have hs:=Q6 (I:=I) (c:=true) (c':=true) L f z L.length rfl hl hD x h hk
  rw[if_pos hk] at hlen;rw[←hlen,hS] at hs;exact sm 14 [pom [0,2] (hs),pa,pm ((show Leads I _ ⟨[(1,.i e),(3,.p 1 0),(4,.p 3 0),(10,.o false)],[(0,some ⟨46,none,[.sl 7,.o S.2.1,.i S.2.2]⟩),(1,some ⟨3,none,[.i j]⟩),(3,some ⟨3,none,[.i u]⟩),(7,some ⟨103,some (9,(S.1).length),Aa ((S.1).map (Ag true))⟩)],9⟩ ⟨[(1,.i e),(3,.p 1 0),(4,.p 3 0),(10,.o false)],[(0,some ⟨46,none,[.sl 2,.o S.2.1,.i S.2.2]⟩),(1,some ⟨3,none,[.i j]⟩),(3,some ⟨3,none,[.i u]⟩),(2,some ⟨103,some (9,(S.1).length),Aa ((S.1).map (Ag true))⟩)],9⟩ from AN [(2,7)] ⟨rfl,TVle.refl,rfl,TVle.refl,rfl,TVle.refl,rfl,TVle.refl,trivial⟩ ⟨rfl,rfl,rfl,ILe.refl,rfl,rfl,rfl,ILe.refl,rfl,rfl,rfl,ILe.refl,rfl,rfl,rfl,ILe.refl,trivial⟩)),pk (AA 3 j 1 ⟨by omega,by omega⟩)]
 ·have hs:=S9 (I:=I) (c:=true) (c':=true) L f z L.length rfl hl x h hk
  rw[if_neg hk] at hlen;rw[hS] at hs;have hs:SpM Tryz.prog I 81 [(0,some (tbx f z 1)),(1,some (nbx true L L.length))] [.one (.ptr 0 0),chT true x] [(0,some (tbx S.2.1 S.2.2 1)),(1,some (nbx true S.1 S.1.length))] (li 0):=by rw[hlen];exact hs
  exact sm 14 [pom [0,2] (hs),pa,pk (AA 3 j 1 ⟨by omega,by omega⟩)]
end
abbrev TT:=List Nd×Bool×Int
def qst (b:List Nat)(a:Int)(T:TT)(j u:Int):Go.Proofs.YtdgbealknnmkoaaGreatDoor.St:=⟨[(0,.t (slI 1 ((b).map (Ae)))),(1,.cv (.one (.clo 80 [(0,0),(1,0),(3,0)]))),(4,.i a)],[(0,some ⟨46,none,[.sl 2,.o T.2.1,.i T.2.2]⟩),(1,some ⟨3,none,[.i j]⟩),(2,some ⟨103,some (9,(T.1).length),Aa ((T.1).map (Ag true))⟩),(3,some ⟨3,none,[.i u]⟩)],50⟩
def Th (T:TT)(j u:Int):Go.Proofs.YtdgbealknnmkoaaGreatDoor.St:=⟨[],[(0,some ⟨46,none,[.sl 2,.o T.2.1,.i T.2.2]⟩),(1,some ⟨3,none,[.i j]⟩),(2,some ⟨103,some (9,(T.1).length),Aa ((T.1).map (Ag true))⟩),(3,some ⟨3,none,[.i u]⟩)],50⟩
theorem Aaf {T:TT}{x:Ch}(h:tvc T.1 T.2.1 T.2.2=0):apC T.1 T.2.1 T.2.2 x=chE T.1 x:=by unfold apC;rw[if_neg (fun hh=>hh h)]
theorem Ads (b:List Nat)(hb:B8 b)(hl:b.length≤1000000000)(a:Nat)(T:TT)(hT:tvc T.1 T.2.1 T.2.2=0)(j u:Int)(hj:0≤j∧j≤1000000000)(y:Ch)(e:Nat)(h:jfr b a y e)(hk:Lq y.q 12)(hc:chE T.1 y=0)(S:TT)(hS:chS T.1 T.2.1 T.2.2 y=S) :
  Rnd Tryz.prog Ao 44 (AQ Tryz.prog 63 0) (qst b (a:Int) T j u) .normal (qst b (e:Int) S (j+1) (e:Int)):=by
 have hlt:=Lb h;obtain ⟨body,used,h1,h2,h3⟩:=h;have hU:=F9 (I:=Ao) (hb.drop a) (by rw[List.length_drop];omega)
 rw[h1] at hU;have hU:Sp Tryz.prog Ao 26 _ (.tu [c8 7,.t (bI body),ci (used:Int),ci 0]):=hU;have hD:=Tz h2 hk;have hA:=NU h3 (by omega)
 obtain ⟨_,t2,_,_,_,t6,_⟩:=FX hT;have hC:=Adq (I:=Ao) T.1 T.2.1 T.2.2 t2 (PH t6).2 y hc (e:Int) u j hj S hS;exact Rnd.nam [(2,90)] (show Rnd _ _ _ _ _ _ ⟨[(0,.t (slI 1 ((b).map (Ae)))),(1,.cv (.one (.clo 80 [(0,0),(1,0),(3,0)]))),(4,.i (e:Int))],[(0,some ⟨46,none,[.sl 90,.o S.2.1,.i S.2.2]⟩),(1,some ⟨3,none,[.i (j+1)]⟩),(90,some ⟨103,some (9,(S.1).length),Aa ((S.1).map (Ag true))⟩),(3,some ⟨3,none,[.i (e:Int)]⟩)],92⟩ from rr [pk (AK 31 5 3 1 ((b).map (Ae)) ((b).length:Int)),pk (Al 3 (a:Int) ((b).length:Int)),pk (AC b a _ rfl (by omega)),po (hU),pa,pa,po (hD),pa,pk (hA),pom [0,1,2,3] (hC),pa]) (t:=⟨[(0,.t (slI 1 ((b).map (Ae)))),(1,.cv (.one (.clo 80 [(0,0),(1,0),(3,0)]))),(4,.i (e:Int))],[(0,some ⟨46,none,[.sl 2,.o S.2.1,.i S.2.2]⟩),(1,some ⟨3,none,[.i (j+1)]⟩),(2,some ⟨103,some (9,(S.1).length),Aa ((S.1).map (Ag true))⟩),(3,some ⟨3,none,[.i (e:Int)]⟩)],50⟩) ⟨rfl,TVle.refl,rfl,TVle.refl,rfl,TVle.refl,trivial⟩ ⟨rfl,rfl,rfl,ILe.refl,rfl,rfl,rfl,ILe.refl,rfl,rfl,rfl,ILe.refl,rfl,rfl,rfl,ILe.refl,trivial⟩
theorem Adr (b:List Nat)(hb:B8 b)(hl:b.length≤1000000000)(a:Nat)(T:TT)(hT:tvc T.1 T.2.1 T.2.2=0)(j u:Int)(y:Ch)(e:Nat)(h:jfr b a y e)(hk:Lq y.q 12)(hc:chE T.1 y≠0) :
  Rnd Tryz.prog Ao 44 (AQ Tryz.prog 63 0) (qst b (a:Int) T j u) .ret (Th T j u):=by
 have hlt:=Lb h;obtain ⟨body,used,h1,h2,h3⟩:=h;have hU:=F9 (I:=Ao) (hb.drop a) (by rw[List.length_drop];omega)
 rw[h1] at hU;have hU:Sp Tryz.prog Ao 26 _ (.tu [c8 7,.t (bI body),ci (used:Int),ci 0]):=hU;have hD:=Tz h2 hk;have hA:=NU h3 (by omega)
 obtain ⟨_,t2,_,_,_,t6,_⟩:=FX hT;have hC:=AaV (I:=Ao) T.1 T.2.1 T.2.2 t2 (PH t6).2 y hc (e:Int) j u;exact Rnd.nam [(2,90)] (show Rnd _ _ _ _ _ _ ⟨[],[(0,some ⟨46,none,[.sl 90,.o T.2.1,.i T.2.2]⟩),(1,some ⟨3,none,[.i j]⟩),(90,some ⟨103,some (9,(T.1).length),Aa ((T.1).map (Ag true))⟩),(3,some ⟨3,none,[.i u]⟩)],92⟩ from rr [pk (AK 31 5 3 1 ((b).map (Ae)) ((b).length:Int)),pk (Al 3 (a:Int) ((b).length:Int)),pk (AC b a _ rfl (by omega)),po (hU),pa,pa,po (hD),pa,pk (hA),pom [0,1,2,3] (hC),pa]) (t:=⟨[],[(0,some ⟨46,none,[.sl 2,.o T.2.1,.i T.2.2]⟩),(1,some ⟨3,none,[.i j]⟩),(2,some ⟨103,some (9,(T.1).length),Aa ((T.1).map (Ag true))⟩),(3,some ⟨3,none,[.i u]⟩)],50⟩) trivial ⟨rfl,rfl,rfl,ILe.refl,rfl,rfl,rfl,ILe.refl,rfl,rfl,rfl,ILe.refl,rfl,rfl,rfl,ILe.refl,trivial⟩
theorem Y6 (b:List Nat)(hb:B8 b)(hl:b.length≤1000000000)(a:Nat)(ha:a≤b.length)(T:TT)(j u:Int)(h : ∀ y e,¬ jfr b a y e) :
  Rnd Tryz.prog Ao 44 (AQ Tryz.prog 63 0) (qst b (a:Int) T j u) (.exit 0) (Th T j u)∨Rnd Tryz.prog Ao 44 (AQ Tryz.prog 63 0) (qst b (a:Int) T j u) .ret (Th T j u):=by
 by_cases hab:a < b.length
 ·right
  have hU:=F9 (I:=Ao) (hb.drop a) (by rw[List.length_drop];omega)
  have hb8:=SJ (hb.drop a);have hj : ∀ body used,AP (b.drop a)=(7,body,used,0) → ∀ y,Bm y≠(body,0):=fun body used h1 y h2=>h y _ ⟨body,used,h1,h2,rfl⟩
  generalize AP (b.drop a)=r at *;obtain ⟨kd,body,used,o⟩:=r;simp only at hU hb8;by_cases ho:o=0
  ·subst ho
   have hU:Sp Tryz.prog Ao 26 _ (.tu [c8 (kd:Int),.t (bI body),ci (used:Int),ci 0]):=hU;by_cases hk7:kd=7
   ·subst hk7
    have hU:Sp Tryz.prog Ao 26 _ (.tu [c8 7,.t (bI body),ci (used:Int),ci 0]):=hU;have hD:=RR hb8 (hj body used rfl);exact Rnd.nam [] (show Rnd _ _ _ _ _ _ ⟨[],[(0,some ⟨46,none,[.sl 2,.o T.2.1,.i T.2.2]⟩),(1,some ⟨3,none,[.i j]⟩),(2,some ⟨103,some (9,(T.1).length),Aa ((T.1).map (Ag true))⟩),(3,some ⟨3,none,[.i u]⟩)],83⟩ from rr [pk (AK 31 5 3 1 ((b).map (Ae)) ((b).length:Int)),pk (Al 3 (a:Int) ((b).length:Int)),pk (AC b a _ rfl (by omega)),po (hU),pa,pa,po (hD),pa]) (t:=⟨[],[(0,some ⟨46,none,[.sl 2,.o T.2.1,.i T.2.2]⟩),(1,some ⟨3,none,[.i j]⟩),(2,some ⟨103,some (9,(T.1).length),Aa ((T.1).map (Ag true))⟩),(3,some ⟨3,none,[.i u]⟩)],50⟩) trivial ⟨rfl,rfl,rfl,ILe.refl,rfl,rfl,rfl,ILe.refl,rfl,rfl,rfl,ILe.refl,rfl,rfl,rfl,ILe.refl,trivial⟩
   ·have hq:(!decide ((kd:Int)=7))=true:=by rw[decide_eq_false (by omega)];rfl
    exact Rnd.nam [] (show Rnd _ _ _ _ _ _ ⟨[],[(0,some ⟨46,none,[.sl 2,.o T.2.1,.i T.2.2]⟩),(1,some ⟨3,none,[.i j]⟩),(2,some ⟨103,some (9,(T.1).length),Aa ((T.1).map (Ag true))⟩),(3,some ⟨3,none,[.i u]⟩)],73⟩ from rr [pk (AK 31 5 3 1 ((b).map (Ae)) ((b).length:Int)),pk (Al 3 (a:Int) ((b).length:Int)),pk (AC b a _ rfl (by omega)),po (hU),pa,pk (NQ 5 (kd:Int) 7 true hq)]) (t:=⟨[],[(0,some ⟨46,none,[.sl 2,.o T.2.1,.i T.2.2]⟩),(1,some ⟨3,none,[.i j]⟩),(2,some ⟨103,some (9,(T.1).length),Aa ((T.1).map (Ag true))⟩),(3,some ⟨3,none,[.i u]⟩)],50⟩) trivial ⟨rfl,rfl,rfl,ILe.refl,rfl,rfl,rfl,ILe.refl,rfl,rfl,rfl,ILe.refl,rfl,rfl,rfl,ILe.refl,trivial⟩
  ·exact Rnd.nam [] (show Rnd _ _ _ _ _ _ ⟨[],[(0,some ⟨46,none,[.sl 2,.o T.2.1,.i T.2.2]⟩),(1,some ⟨3,none,[.i j]⟩),(2,some ⟨103,some (9,(T.1).length),Aa ((T.1).map (Ag true))⟩),(3,some ⟨3,none,[.i u]⟩)],73⟩ from rr [pk (AK 31 5 3 1 ((b).map (Ae)) ((b).length:Int)),pk (Al 3 (a:Int) ((b).length:Int)),pk (AC b a _ rfl (by omega)),po (hU),pk (AO 32 (o:Int) 0)]) (t:=⟨[],[(0,some ⟨46,none,[.sl 2,.o T.2.1,.i T.2.2]⟩),(1,some ⟨3,none,[.i j]⟩),(2,some ⟨103,some (9,(T.1).length),Aa ((T.1).map (Ag true))⟩),(3,some ⟨3,none,[.i u]⟩)],50⟩) trivial ⟨rfl,rfl,rfl,ILe.refl,rfl,rfl,rfl,ILe.refl,rfl,rfl,rfl,ILe.refl,rfl,rfl,rfl,ILe.refl,trivial⟩
 ·left
  exact Rnd.nam [] (show Rnd _ _ _ _ _ _ ⟨[],[(0,some ⟨46,none,[.sl 2,.o T.2.1,.i T.2.2]⟩),(1,some ⟨3,none,[.i j]⟩),(2,some ⟨103,some (9,(T.1).length),Aa ((T.1).map (Ag true))⟩),(3,some ⟨3,none,[.i u]⟩)],54⟩ from rr [pk (AK 31 5 3 1 ((b).map (Ae)) ((b).length:Int)),pk (Ai 3 (a:Int) ((b).length:Int))]) (t:=⟨[],[(0,some ⟨46,none,[.sl 2,.o T.2.1,.i T.2.2]⟩),(1,some ⟨3,none,[.i j]⟩),(2,some ⟨103,some (9,(T.1).length),Aa ((T.1).map (Ag true))⟩),(3,some ⟨3,none,[.i u]⟩)],50⟩) trivial ⟨rfl,rfl,rfl,ILe.refl,rfl,rfl,rfl,ILe.refl,rfl,rfl,rfl,ILe.refl,rfl,rfl,rfl,ILe.refl,trivial⟩
structure Upto (q:Rat) (cs:List Ch) (m:Nat):Prop where
 le:m≤cs.length
 ok:okA q (cs.take m)
 no:m < cs.length→apC (trA q (cs.take m)).1 (trA q (cs.take m)).2.1 (trA q (cs.take m)).2.2 (cat cs m)≠0
theorem Xg {cs:List Ch}{m i:Nat}(hi:i < m)(hm:m≤cs.length):cat (cs.take m) i=cat cs i:=by
 have a:=DJ (L:=cs.take m) (i:=i) (by rw[List.length_take];omega)
 rw[List.getElem?_take,if_pos hi,DJ (by omega)] at a
 injection a with a;exact a.symm
theorem Aa4 (q : Rat) (cs : List Ch) : ∃ m, Upto q cs m := by
 have : ∀ n,n≤cs.length→(∃ m,Upto q cs m)∨okA q (cs.take n):=by
  intro n;induction n with
  | zero=>intro _;right;intro i hi;simp at hi
  | succ n ih =>
   intro hn;rcases ih (by omega) with h | h
   ·exact .inl h
   ·by_cases h2:apC (trA q (cs.take n)).1 (trA q (cs.take n)).2.1 (trA q (cs.take n)).2.2 (cat cs n)=0
    ·right
     rw[Ff (by omega)]
     exact YM h h2
    ·exact .inl ⟨n,by omega,h,fun _=>h2⟩
 rcases this cs.length (Nat.le_refl _) with h | h
 ·exact h
 ·exact ⟨cs.length,Nat.le_refl _,h,fun hlt=>absurd hlt (Nat.lt_irrefl _)⟩
theorem Upto.step {q:Rat}{cs:List Ch}{m:Nat}(h:Upto q cs m){i:Nat}(hi:i < m):apC (trA q (cs.take i)).1 (trA q (cs.take i)).2.1 (trA q (cs.take i)).2.2 (cat cs i)=0:=by
 have h2:=h.le;have:=h.ok i (by rw[List.length_take];omega)
 rw[List.take_take,Nat.min_eq_left (by omega),Xg hi h2] at this
 exact this
theorem Upto.tvc {q:Rat}(hq:okc q=true){cs:List Ch}{m:Nat}(h:Upto q cs m){i:Nat}(hi:i≤m):Go.Proofs.YtdgbealknnmkoaaGreatDoor.tvc (trA q (cs.take i)).1 (trA q (cs.take i)).2.1 (trA q (cs.take i)).2.2=0:=by
 have h2:=h.le;have:=Abm hq h.ok i (by rw[List.length_take];omega)
 rw[List.take_take,Nat.min_eq_left (by omega)] at this
 exact this
theorem Y7 (b:List Nat)(hb:B8 b)(hl:b.length≤1000000000){cs:List Ch}{p:Nat→Nat}(hj:Jr b cs p)(h0:p 0=0)(hk : ∀ i,i < cs.length→Lq (cat cs i).q 12)(q:Rat)(hq:okc q=true){m:Nat}(hu:Upto q cs m) :
  LoopTr Tryz.prog Ao 44 (AQ Tryz.prog 63 0) (qst b 0 (DE q,false,0) 0 0) (.exit 0) (Th (trA q (cs.take m)) (m:Int) (p m:Int))∨LoopTr Tryz.prog Ao 44 (AQ Tryz.prog 63 0) (qst b 0 (DE q,false,0) 0 0) .ret (Th (trA q (cs.take m)) (m:Int) (p m:Int)):=by
 have hm:=hj.mono h0;have hle:=hu.le;have hml:=hm cs.length (Nat.le_refl _);have step : ∀ i,i < m→Rnd Tryz.prog Ao 44 (AQ Tryz.prog 63 0) (qst b (p i:Int) (trA q (cs.take i)) (i:Int) (p i:Int)) .normal (qst b (p (i+1):Int) (trA q (cs.take (i+1))) ((i+1:Nat):Int) (p (i+1):Int)):=fun i hi=>by
  have ht:=hu.tvc hq (i:=i) (by omega)
  have ha:=hu.step hi;have hs:=(Aau ha).2.2.1;rw[Aaf ht] at ha;rw[Ff (by omega),M7,hs,show ((i+1:Nat):Int)=(i:Int)+1 by omega]
  exact Ads b hb hl (p i) _ ht _ _ (by omega) (cat cs i) _ (hj.st i (by omega)) (hk i (by omega)) ha _ rfl
 have s0:qst b (p 0:Int) (trA q (cs.take 0)) ((0:Nat):Int) (p 0:Int)=qst b 0 (DE q,false,0) 0 0:=by rw[h0];rfl
 rw[←s0];have hend:Rnd Tryz.prog Ao 44 (AQ Tryz.prog 63 0) (qst b (p m:Int) (trA q (cs.take m)) (m:Int) (p m:Int)) (.exit 0) (Th (trA q (cs.take m)) (m:Int) (p m:Int))∨Rnd Tryz.prog Ao 44 (AQ Tryz.prog 63 0) (qst b (p m:Int) (trA q (cs.take m)) (m:Int) (p m:Int)) .ret (Th (trA q (cs.take m)) (m:Int) (p m:Int)):=by
  by_cases hlt:m < cs.length
  ·have ht:=hu.tvc hq (i:=m) (Nat.le_refl _)
   have hn:=hu.no hlt;rw[Aaf ht] at hn;exact .inr (Adr b hb hl (p m) _ ht _ _ (cat cs m) _ (hj.st m hlt) (hk m hlt) hn)
  ·have e:m=cs.length:=by omega
   have hen:=hj.en;rw[←e] at hen;exact Y6 b hb hl (p m) (hm m hle).2 _ _ _ hen
 rcases hend with h | h
 ·exact .inl (Bz (by simp) (fun i=>qst b (p i:Int) (trA q (cs.take i)) (i:Int) (p i:Int)) m step h)
 ·exact .inr (Bz (by simp) (fun i=>qst b (p i:Int) (trA q (cs.take i)) (i:Int) (p i:Int)) m step h)
theorem Z3 (b:List Nat)(hb:B8 b)(hl:b.length≤1000000000){cs:List Ch}{p:Nat→Nat}(hj:Jr b cs p)(h0:p 0=0)(hk : ∀ i,i < cs.length→Lq (cat cs i).q 12)(q:Rat)(hq:okc q=true){m:Nat}(hu:Upto q cs m)(T:TT)(hT:trA q (cs.take m)=T) :
  SpM Tryz.prog Ao 63 [(0,some (tbx false 0 2)),(1,some (ibx 0)),(2,some (nbx true (DE q) (DE q).length)),(3,some (ibx 0))] [.t (bI b),.one (.clo 80 [(0,0),(1,0),(3,0)])] [(0,some (tbx T.2.1 T.2.2 2)),(1,some (ibx (m:Int))),(2,some (nbx true T.1 T.1.length)),(3,some (ibx (p m:Int)))] (.tu []):=by
 have h:=Y7 b hb hl hj h0 hk q hq hu;rw[hT] at h;generalize (p m:Int)=u at *;generalize (m:Int)=j at *;rcases h with lo | lo
 ·exact sm 44 [pl (lo)]
 ·exact sm 44 [pl (lo)]
section
variable {I:WInv}{c:Bool}
theorem X3 (q:Rat):SpM Tryz.prog I 78 [] [fc c 12 q] [(2,some (nbx true (DE q) (DE q).length))] (.cv (.ag [.sl 2,.o false,.i 0])):=sm 8 [po (Sa (I:=I) (c:=c) (p:=q)),pm ((show Leads I _ ⟨[(2,.p 4 0)],[(8,some ⟨103,some (9,1),[.i (-1),.i 0,.i 0,.o false,.b (.it (fF true 12 q)),.i 0]⟩),(4,some ⟨46,none,[.sl 8,.o false,.i 0]⟩)],11⟩ ⟨[(2,.p 4 0)],[(2,some ⟨103,some (9,1),[.i (-1),.i 0,.i 0,.o false,.b (.it (fF true 12 q)),.i 0]⟩),(4,some ⟨46,none,[.sl 2,.o false,.i 0]⟩)],11⟩ from AN [(2,8)] ⟨rfl,TVle.refl,trivial⟩ ⟨rfl,rfl,rfl,ILe.refl,rfl,rfl,rfl,ILe.refl,trivial⟩))]
theorem Y5 (b:List Nat)(hb:B8 b)(hl:b.length≤1000000000){cs:List Ch}{p:Nat→Nat}(hj:Jr b cs p)(h0:p 0=0)(hk : ∀ i,i < cs.length→Lq (cat cs i).q 12)(q:Rat)(hq:okc q=true){m:Nat}(hu:Upto q cs m)(T:TT)(hT:trA q (cs.take m)=T) :
  Sp Tryz.prog Ao 30 [fc c 12 q,.t (bI b)] (.tu [trT true T.1 T.2.1 T.2.2,ci (m:Int),ci (p m:Int)]):=by
 have he:=Z3 b hb hl hj h0 hk q hq hu T hT;have hn:=X3 (I:=Ao) (c:=c) q;have hv0:=X0 (I:=Ao) (c:=true) (DE q) rfl rfl rfl rfl hq;have hv:SpM Tryz.prog Ao 79 [(0,some (nbx true (DE q) (DE q).length))] [.ag [.sl 0,.o false,.i 0]] [(0,some (nbx true (DE q) (DE q).length))] (li 0) :=
  Lo (args:=[.ag [.sl 0,.o false,.i 0]]) hv0 (by rw[List.length_map]) Ge rfl GT rfl
 generalize (p m:Int)=u at *;generalize (m:Int)=j at *;have h:SpM Tryz.prog Ao 30 [] [fc c 12 q,.t (bI b)] [(2,some (nbx true T.1 T.1.length))] (.tu [.ag [.sl 2,.o T.2.1,.i T.2.2],ci j,ci u]):=sm 19 [pom [] (hn),pom [8] (hv),pa,pom [4,5,8,6] (he),⟨.part ([.sl 15,.o T.2.1,.i T.2.2]) 0 3 [.sl 15,.o T.2.1,.i T.2.2],rfl⟩,⟨.part ([.i j]) 0 1 [.i j],rfl⟩,⟨.part ([.i u]) 0 1 [.i u],rfl⟩,⟨.upd [.sl 15,.o T.2.1,.i T.2.2] 0 [.sl 15,.o T.2.1,.i T.2.2] [.sl 15,.o T.2.1,.i T.2.2],rfl⟩,⟨.upd [.i j] 0 [.i j] [.i j],rfl⟩,⟨.upd [.i u] 0 [.i u] [.i u],rfl⟩,pm ((show Leads Ao _ ⟨[(4,.p 4 0),(5,.p 5 0),(6,.p 6 0)],[(4,some ⟨46,none,[.sl 15,.o T.2.1,.i T.2.2]⟩),(5,some ⟨3,none,[.i j]⟩),(6,some ⟨3,none,[.i u]⟩),(15,some ⟨103,some (9,(T.1).length),Aa ((T.1).map (Ag true))⟩)],22⟩ ⟨[(4,.p 4 0),(5,.p 5 0),(6,.p 6 0)],[(4,some ⟨46,none,[.sl 2,.o T.2.1,.i T.2.2]⟩),(5,some ⟨3,none,[.i j]⟩),(6,some ⟨3,none,[.i u]⟩),(2,some ⟨103,some (9,(T.1).length),Aa ((T.1).map (Ag true))⟩)],22⟩ from AN [(2,15)] ⟨rfl,TVle.refl,rfl,TVle.refl,rfl,TVle.refl,trivial⟩ ⟨rfl,rfl,rfl,ILe.refl,rfl,rfl,rfl,ILe.refl,rfl,rfl,rfl,ILe.refl,rfl,rfl,rfl,ILe.refl,trivial⟩))];exact h.freeze (by rw[List.length_map]) Ge rfl
end
section
variable {I:WInv}{c:Bool}
def SV (b:List Nat)(cs:List Ch)(a:Int)(T:TT)(i:Int):Go.Proofs.YtdgbealknnmkoaaGreatDoor.St:=⟨[(1,.t (slI 1 ((b).map (Ae)))),(4,.p 1 0),(7,.p 6 0),(8,.i i),(9,.i a),(10,.t (slI 9 ((cs).map (Cg false 12))))],[(1,some ⟨46,none,[.z,.o false,.i 0]⟩),(6,some ⟨46,none,[.b (.it (slI 9 ((T.1).map (Ag true)))),.o T.2.1,.i T.2.2]⟩)],50⟩
def Ae3 (T:TT)(j u:Int):Go.Proofs.YtdgbealknnmkoaaGreatDoor.St:=⟨[(4,.p 1 0),(7,.p 6 0),(8,.i j),(9,.i u)],[(1,some ⟨46,none,[.z,.o false,.i 0]⟩),(6,some ⟨46,none,[.b (.it (slI 9 ((T.1).map (Ag true)))),.o T.2.1,.i T.2.2]⟩)],50⟩
theorem VV (b:List Nat)(hb:B8 b)(hl:b.length≤1000000000){cs:List Ch}{p:Nat→Nat}(hj:Jr b cs p)(h0:p 0=0)(q:Rat)(hq:okc q=true){m:Nat}(hu:Upto q cs m) :
  LoopTr Tryz.prog I 58 (AQ Tryz.prog 33 0) (SV b cs 0 (DE q,false,0) 0) (.exit 0) (Ae3 (trA q (cs.take m)) (m:Int) (p m:Int)):=by
 have hm:=hj.mono h0;have hle:=hu.le;have hml:=hm cs.length (Nat.le_refl _);have s0:SV b cs (p 0:Int) (trA q (cs.take 0)) ((0:Nat):Int)=SV b cs 0 (DE q,false,0) 0:=by rw[h0];rfl
 rw[←s0];refine Bz (by simp) (fun i=>SV b cs (p i:Int) (trA q (cs.take i)) (i:Int)) m (fun i hi => ?_) ?_
 ·have ht:=hu.tvc hq (i:=i) (by omega)
  have ha:=hu.step hi;have hf:=hj.st i (by omega)
  have hlt:=Lb hf;show Rnd Tryz.prog I _ _ (SV b cs (p i:Int) (trA q (cs.take i)) (i:Int)) _ (SV b cs (p (i+1):Int) (trA q (cs.take (i+1))) ((i+1:Nat):Int));rw[Ff (by omega),M7,show ((i+1:Nat):Int)=(i:Int)+1 by omega]
  generalize trA q (cs.take i)=T at *;have hap:=OC (I:=I) (c:=true) (c':=false) T.1 T.2.1 T.2.2 (by have:=(FX ht).2.1;omega) (cat cs i)
  rw[ha] at hap;generalize apS T.1 T.2.1 T.2.2 (cat cs i)=S at *;have hi:i < cs.length:=by omega
  generalize p i=a at *;generalize p (i+1)=e at *;obtain ⟨body,used,u1,u2,u3⟩:=hf;have hU:=AcU (I:=I) (hb.drop a) (by rw[List.length_drop];omega)
  rw[u1] at hU;have hU:Sp Tryz.prog I 65 _ (.tu [c8 7,.t (bI body),ci (used:Int),cb true]):=hU;have hA:=NU u3 (by omega)
  exact Rnd.nam [] (show Rnd _ _ _ _ _ _ ⟨[(1,.t (slI 1 ((b).map (Ae)))),(4,.p 1 0),(7,.p 6 0),(8,.i ((i:Int)+1)),(9,.i (e:Int)),(10,.t (slI 9 ((cs).map (Cg false 12))))],[(1,some ⟨46,none,[.z,.o false,.i 0]⟩),(6,some ⟨46,none,[.b (.it (slI 9 ((S.1).map (Ag true)))),.o S.2.1,.i S.2.2]⟩)],90⟩ from rr [pk (AK 39 28 3 9 ((cs).map (Cg false 12)) ((cs).length:Int)),pk (Al 3 (i:Int) ((cs).length:Int)),pk (Aj 39 28 9 ((cs).map (Cg false 12)) i (i:Int) ((Cg false 12) (cat cs i)) (Q8 hi)),po (hap),pa,pk (AC b a _ rfl (by omega)),po (hU),pk (AA 3 (i:Int) 1 ⟨by omega,by omega⟩),pk (hA)]) (t:=⟨[(1,.t (slI 1 ((b).map (Ae)))),(4,.p 1 0),(7,.p 6 0),(8,.i ((i:Int)+1)),(9,.i (e:Int)),(10,.t (slI 9 ((cs).map (Cg false 12))))],[(1,some ⟨46,none,[.z,.o false,.i 0]⟩),(6,some ⟨46,none,[.b (.it (slI 9 ((S.1).map (Ag true)))),.o S.2.1,.i S.2.2]⟩)],50⟩) ⟨rfl,TVle.refl,rfl,TVle.refl,rfl,TVle.refl,rfl,TVle.refl,rfl,TVle.refl,rfl,TVle.refl,trivial⟩ ⟨rfl,rfl,rfl,ILe.refl,rfl,rfl,rfl,ILe.refl,trivial⟩
 ·show Rnd Tryz.prog I _ _ (SV b cs (p m:Int) (trA q (cs.take m)) (m:Int)) _ _
  by_cases hlt:m < cs.length
  ·have ht:=hu.tvc hq (i:=m) (Nat.le_refl _)
   have hn:=hu.no hlt;generalize trA q (cs.take m)=T at *;have hap:=OC (I:=I) (c:=true) (c':=false) T.1 T.2.1 T.2.2 (by have:=(FX ht).2.1;omega) (cat cs m)
   generalize apS T.1 T.2.1 T.2.2 (cat cs m)=S at *;generalize apC T.1 T.2.1 T.2.2 (cat cs m)=r at *;generalize (p m:Int)=u at *;have hi:m < cs.length:=hlt;clear hu hle ht;revert hi hap hlt;generalize m=i;intro hi hap hlt;exact Rnd.nam [] (show Rnd _ _ _ _ _ _ ⟨[(4,.p 1 0),(7,.p 6 0),(8,.i (i:Int)),(9,.i u)],[(1,some ⟨46,none,[.z,.o false,.i 0]⟩),(6,some ⟨46,none,[.b (.it (slI 9 ((T.1).map (Ag true)))),.o T.2.1,.i T.2.2]⟩)],68⟩ from rr [pk (AK 39 28 3 9 ((cs).map (Cg false 12)) ((cs).length:Int)),pk (Al 3 (i:Int) ((cs).length:Int)),pk (Aj 39 28 9 ((cs).map (Cg false 12)) i (i:Int) ((Cg false 12) (cat cs i)) (Q8 hi)),po (hap),pk (AO 32 r 0)]) (t:=⟨[(4,.p 1 0),(7,.p 6 0),(8,.i (i:Int)),(9,.i u)],[(1,some ⟨46,none,[.z,.o false,.i 0]⟩),(6,some ⟨46,none,[.b (.it (slI 9 ((T.1).map (Ag true)))),.o T.2.1,.i T.2.2]⟩)],50⟩) ⟨rfl,TVle.refl,rfl,TVle.refl,rfl,TVle.refl,rfl,TVle.refl,trivial⟩ ⟨rfl,rfl,rfl,ILe.refl,rfl,rfl,rfl,ILe.refl,trivial⟩
  ·have e:m=cs.length:=by omega
   rw[e];generalize trA q (cs.take cs.length)=T at *;generalize (p cs.length:Int)=u at *;exact Rnd.nam [] (show Rnd _ _ _ _ _ _ ⟨[(4,.p 1 0),(7,.p 6 0),(8,.i ((cs).length:Int)),(9,.i u)],[(1,some ⟨46,none,[.z,.o false,.i 0]⟩),(6,some ⟨46,none,[.b (.it (slI 9 ((T.1).map (Ag true)))),.o T.2.1,.i T.2.2]⟩)],54⟩ from rr [pk (AK 39 28 3 9 ((cs).map (Cg false 12)) ((cs).length:Int)),pk (Ai 3 ((cs).length:Int) ((cs).length:Int))]) (t:=⟨[(4,.p 1 0),(7,.p 6 0),(8,.i ((cs).length:Int)),(9,.i u)],[(1,some ⟨46,none,[.z,.o false,.i 0]⟩),(6,some ⟨46,none,[.b (.it (slI 9 ((T.1).map (Ag true)))),.o T.2.1,.i T.2.2]⟩)],50⟩) ⟨rfl,TVle.refl,rfl,TVle.refl,rfl,TVle.refl,rfl,TVle.refl,trivial⟩ ⟨rfl,rfl,rfl,ILe.refl,rfl,rfl,rfl,ILe.refl,trivial⟩
theorem VU (b:List Nat)(hb:B8 b)(hl:b.length≤1000000000){cs:List Ch}{p:Nat→Nat}(hj:Jr b cs p)(h0:p 0=0)(hk : ∀ i,i < cs.length→Lq (cat cs i).q 12)(q:Rat)(hq:okc q=true){m:Nat}(hu:Upto q cs m)(T:TT)(hT:trA q (cs.take m)=T) :
  Sp Tryz.prog I 33 [fc c 12 q,.t (bI b)] (.tu [trT true T.1 T.2.1 T.2.2,ci (m:Int),ci (p m:Int)]):=by
 have lo:=VV (I:=I) b hb hl hj h0 q hq hu;have hnw:=AaS (I:=I) (c:=c) q;have hr:=VW (I:=I) b hb hl hj h0 hk;rw[hT] at lo;generalize (p m:Int)=u at *;generalize (p cs.length:Int)=v at *;generalize (m:Int)=j at *;exact sr 58 [po (hnw),po (hr),pl (lo)]
end
theorem Xx (n:Int):okc (Ow n)=true:=by
 by_cases h:kap n=0
 ·refine UE ?_
  unfold Ow;rw[h,Int.mul_zero,Int.mul_zero,Rat.divInt_zero];exact FM 1
 ·unfold Ow
  rw[Rat.divInt_mul_right h,BB];exact Zp n
def rpP (l:List Int):Nat→List Ch
 | 0=>[]
 | k+1=>if (Bm (Q5 (atS l k))).2=0 then rpP l k++[Q5 (atS l k)] else rpP l k
structure Rok (n:Nat) (cs:List Ch):Prop where
 len:cs.length≤n
 enc : ∀ x∈cs,(Bm x).2=0
 lq : ∀ x∈cs,Lq x.q 12
theorem SW (l:List Int) : ∀ k,Rok k (rpP l k)
 | 0=>⟨Nat.le_refl _,(fun x hx=>by cases hx),(fun x hx=>by cases hx)⟩
 | k+1=>by
  have ih:=SW l k;rw[rpP];by_cases h:(Bm (Q5 (atS l k))).2=0
  ·rw[if_pos h]
   refine ⟨by rw[List.length_append,List.length_singleton];have:=ih.len;omega,fun x hx => ?_,fun x hx => ?_⟩
   ·rcases List.mem_append.1 hx with hx | hx
    ·exact ih.enc x hx
    ·rw[List.mem_singleton.1 hx];exact h
   ·rcases List.mem_append.1 hx with hx | hx
    ·exact ih.lq x hx
    ·rw[List.mem_singleton.1 hx];exact Acd _
  ·rw[if_neg h]
   exact ⟨by have:=ih.len;omega,ih.enc,ih.lq⟩
def rpN (l:List Int):Nat:=if 8≤l.length then 8 else l.length
def Rh (l:List Int)(n:Int)(b:List Nat)(i:Int):Go.Proofs.YtdgbealknnmkoaaGreatDoor.St:=⟨[(0,.t (slI 1 ((l).map (Ah)))),(1,.i n),(5,.t (slI 1 ((b).map (Ae)))),(6,.i i)],[],50⟩
theorem Yx (l:List Int)(hl:l.length≤35184372087808)(n:Int)(b:List Nat)(hb:b.length≤1000000)(k:Nat)(h1:k < 8)(h2:k < l.length)(x:Ch)(hx:x=Q5 (atS l k)) :
  ((GU b x).2=0→Rnd Tryz.prog Ao 69 (AQ Tryz.prog 9 0) (Rh l n b (k:Int)) .normal (Rh l n (GU b x).1 ((k+1:Nat):Int)))∧((GU b x).2≠0→Rnd Tryz.prog Ao 69 (AQ Tryz.prog 9 0) (Rh l n b (k:Int)) .normal (Rh l n b ((k+1:Nat):Int))):=by
 have hch:=Aed (I:=Ao) l k (by omega) hl
 rw[←hx] at hch;have hje:=Wd (I:=Ao) (c:=false) (k:=12) b (by omega) x (by omega)
 generalize GU b x=J at *;obtain ⟨b2,r⟩:=J;simp only at hje ⊢;refine ⟨fun e => ?_,fun e => ?_⟩
 ·subst e
  exact Rnd.nam [] (show Rnd _ _ _ _ _ _ ⟨[(0,.t (slI 1 ((l).map (Ah)))),(1,.i n),(5,.t (slI 1 ((b2).map (Ae)))),(6,.i ((k+1:Nat):Int))],[],75⟩ from rr [pk (Al 3 (k:Int) 8),pk (AK 40 3 3 1 ((l).map (Ah)) ((l).length:Int)),pk (Al 3 (k:Int) ((l).length:Int)),po (hch),po (hje),pa,pk (AA 3 (k:Int) 1 ⟨by omega,by omega⟩)]) (t:=⟨[(0,.t (slI 1 ((l).map (Ah)))),(1,.i n),(5,.t (slI 1 ((b2).map (Ae)))),(6,.i ((k+1:Nat):Int))],[],50⟩) ⟨rfl,TVle.refl,rfl,TVle.refl,rfl,TVle.refl,rfl,TVle.refl,trivial⟩ trivial
 ·exact Rnd.nam [] (show Rnd _ _ _ _ _ _ ⟨[(0,.t (slI 1 ((l).map (Ah)))),(1,.i n),(5,.t (slI 1 ((b).map (Ae)))),(6,.i ((k+1:Nat):Int))],[],73⟩ from rr [pk (Al 3 (k:Int) 8),pk (AK 40 3 3 1 ((l).map (Ah)) ((l).length:Int)),pk (Al 3 (k:Int) ((l).length:Int)),po (hch),po (hje),pk (Af 32 r 0),pk (AA 3 (k:Int) 1 ⟨by omega,by omega⟩)]) (t:=⟨[(0,.t (slI 1 ((l).map (Ah)))),(1,.i n),(5,.t (slI 1 ((b).map (Ae)))),(6,.i ((k+1:Nat):Int))],[],50⟩) ⟨rfl,TVle.refl,rfl,TVle.refl,rfl,TVle.refl,rfl,TVle.refl,trivial⟩ trivial
theorem AaU (l:List Int)(hl:l.length≤35184372087808)(n:Int):LoopTr Tryz.prog Ao 69 (AQ Tryz.prog 9 0) (Rh l n [] ((0:Nat):Int)) (.exit 0) ⟨[(1,li n),(5,.t (bI (jby (rpP l (rpN l)))))],[],50⟩:=by
 refine Bz (by simp) (fun k=>Rh l n (jby (rpP l k)) (k:Int)) (rpN l) (fun k hk => ?_) ?_
 ·have hk2:k < 8∧k < l.length:=by unfold rpN at hk;split at hk <;> omega
  have hok:=SW l k;have hbl:=Ql (rpP l k) hok.enc;have hlen:=hok.len;obtain ⟨r1,r2⟩:=Yx l hl n (jby (rpP l k)) (by omega) k hk2.1 hk2.2 _ rfl
  rw[rpP];by_cases h:(Bm (Q5 (atS l k))).2=0
  ·rw[if_pos h]
   have e:=Zd (rpP l k) _ h;have:=r1 (by rw[e])
   rw[e] at this;exact this
  ·rw[if_neg h]
   exact r2 fun hh=>h (Ab1 hh).1
 ·show Rnd Tryz.prog Ao _ _ (Rh l n (jby (rpP l (rpN l))) ((rpN l:Nat):Int)) _ _
  have hk:rpN l=8∨(rpN l < 8∧l.length=rpN l):=by unfold rpN;split <;> omega
  generalize jby (rpP l (rpN l))=b at *;generalize rpN l=k at *;rcases hk with hk | ⟨hk,hk2⟩
  ·exact Rnd.nam [] (show Rnd _ _ _ _ _ _ ⟨[(1,.i n),(5,.t (slI 1 ((b).map (Ae))))],[],58⟩ from rr [pk (Ai 3 (k:Int) 8)]) (t:=⟨[(1,.i n),(5,.t (slI 1 ((b).map (Ae))))],[],50⟩) ⟨rfl,TVle.refl,rfl,TVle.refl,trivial⟩ trivial
  ·exact Rnd.nam [] (show Rnd _ _ _ _ _ _ ⟨[(1,.i n),(5,.t (slI 1 ((b).map (Ae))))],[],58⟩ from rr [pk (Al 3 (k:Int) 8),pk (AK 40 3 3 1 ((l).map (Ah)) ((l).length:Int)),pk (Ai 3 (k:Int) ((l).length:Int))]) (t:=⟨[(1,.i n),(5,.t (slI 1 ((b).map (Ae))))],[],50⟩) ⟨rfl,TVle.refl,rfl,TVle.refl,trivial⟩ trivial
theorem Rm (l:List Int)(hl:l.length≤35184372087808)(n:Int):Sp Tryz.prog Ao 9 [.t (slI 1 (l.map Ah)),ci n] (lb true):=by
 have lo0:=AaU l hl n;have lo:=LoopTr.pre (show Leads Ao 69 ⟨[(0,.t (slI 1 (l.map Ah))),(1,li n),(5,BA (.slice none 0 0)),(6,li 0)],[],50⟩ (Rh l n [] ((0:Nat):Int)) from Mz ⟨rfl,TVle.refl,rfl,TVle.refl,rfl,(XLe.one Ni).tv,rfl,TVle.refl,trivial⟩ trivial) lo0;clear lo0;have hok:=SW l (rpN l);have hN:rpN l≤8:=by unfold rpN;split <;> omega
 generalize rpP l (rpN l)=es at *;have hbl:=Ql es hok.enc;have hlen:=hok.len;have hw:=Aa2 (I:=Ao) n;have hq:=Xx n;generalize Ow n=q at *;have hj:=Zc es hok.enc;have hlq : ∀ i,i < es.length→Lq (cat es i).q 12:=fun i hi=>hok.lq _ (List.mem_of_getElem? (DJ hi))
 obtain ⟨m,hu⟩:=Aa4 q es;have r1:=Y5 (c:=false) (jby es) (No es) (by omega) hj (KZ es) hlq q hq hu _ rfl
 have r2:=VU (I:=Ao) (c:=false) (jby es) (No es) (by omega) hj (KZ es) hlq q hq hu _ rfl
 have hTl:=(FX (hu.tvc hq (Nat.le_refl m))).2.1;have hsm:=XW (I:=Ao) (trA q (es.take m)).1 (trA q (es.take m)).2.1 (trA q (es.take m)).2.2 (by omega)
 generalize trA q (es.take m)=T at *;generalize (G6 es m:Int)=u at *;generalize (m:Int)=j at *;generalize jby es=b at *;exact sr 69 [pl (lo),po (hw),po (r1),po (r2),pk (AT 3 j j true (decide_eq_true rfl)),pk (AT 3 u u true (decide_eq_true rfl)),po (hsm),po (Ab0)]
theorem J0 (w:World){v:Value}{l:List Int}(h1:AcR w v l)(n:Int)(hn:(Lit.int .i64 n).wf=true)(hT:Tab w)(hM : ∃ m:Int,w.cell? ⟨0,0,none⟩=some (.int .i64 m)):Calls Tryz.prog 9 #[v,.int .i64 n] w (Hl w (.bool true)) :=
 AeD (Rm l h1.1 n) hT hM ⟨_,_,rfl,h1.2,_,_,rfl,rfl,rfl⟩
end Go.Proofs.YtdgbealknnmkoaaGreatDoor
