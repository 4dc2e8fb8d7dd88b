/- Texts of one proof, put together by a program: each lemma is proved for all values of its variables, under the premises that it states. -/
import Derived.Test.YtdgbealknnmkoaaGreatDoorPbd9d9ce0
import Derived.Test.YtdgbealknnmkoaaGreatDoorP0a1dd4ec
set_option linter.unusedVariables false
set_option linter.unusedSimpArgs false
namespace Go.Proofs.YtdgbealknnmkoaaGreatDoor
open Go Go.RowKit
section
variable {P:Program}{I:WInv}{c c':Bool}
theorem SpM.sp {f:FuncId}{args:List CT}{res:TV}(h:SpM P I f [] args [] res)(hok:res.noPtr=true):Sp P I f args res:=by
 intro N w vs hI hlow hargs;refine (h N (fun b=>b < w.heap.size) w G0 vs hI hlow (fun b hb=>hb) (fun k e he=>by cases he) (fun k j e e' b he=>by cases he) (fun k _=>rfl) hargs).mono ?_
 rintro en w' ⟨v,N',g',rfl,q1,q2,q3,q4,q5,q6,q7⟩;exact ⟨v,rfl,TV.noPtr_sem hok (TV.step q7 (WStep.refl _ _) (fun b hb=>(q2 b hb).imp id fun h=>⟨Nat.not_lt.1 h.1,h.2⟩) (GExt.refl _)),Mr q3⟩
theorem Abk (L:List Nd)(f:Bool)(z:Int)(i:Nat)(hi:i < L.length)(r:Int)(hr:(if (tat L i).st=0 then 0 else 16)=r):Sp Tryz.prog I 73 [trT c L f z,ci (i:Int)] (li r):=by
 subst hr;by_cases h:(tat L i).st=0
 ·rw[if_pos h]
  exact sr 12 [pk (Aj 44 103 9 ((L).map (Ag c)) i (i:Int) ((Ag c) (tat L i)) (AR hi)),pk (D7 3 ((tat L i).st) 0 false (decide_eq_true h))]
 ·rw[if_neg h]
  exact sr 12 [pk (Aj 44 103 9 ((L).map (Ag c)) i (i:Int) ((Ag c) (tat L i)) (AR hi)),pk (D7 3 ((tat L i).st) 0 true (decide_eq_false h))]
theorem Es {L:List Nd}(f:Bool)(z:Int)(n:Nat)(hn:L.length=n)(i:Nat)(hi:i < L.length)(r:Int)(hr:(if (tat L i).st=0 then 0 else 16)=r):SpM Tryz.prog I 73 [(0,some (nbx c L n))] [.ag [.sl 0,.o f,.i z],ci (i:Int)] [(0,some (nbx c L n))] (li r) :=
 Lo (args:=[.ag [.sl 0,.o f,.i z],ci (i:Int)]) (Abk L f z i hi r hr) (by rw[List.length_map];exact hn.symm) Ge rfl GT rfl
theorem Hg {L:List Nd}(f:Bool)(z:Int)(n:Nat)(hn:L.length=n)(q:Rat)(r:Bool)(hr:QB f z q=r):SpM Tryz.prog I 77 [(0,some (nbx c L n))] [.ag [.sl 0,.o f,.i z],fc c 12 q] [(0,some (nbx c L n))] (lb r) :=
 Lo (args:=[.ag [.sl 0,.o f,.i z],fc c 12 q]) (by rw[←hr];exact Pj L f z q) (by rw[List.length_map];exact hn.symm) Ge rfl GT rfl
def RL (c:Bool)(L:List Nd)(n:Nat)(f:Bool)(z:Int)(i:Nat):Go.Proofs.YtdgbealknnmkoaaGreatDoor.St:=⟨[(1,.p 3 0),(5,.s 40),(6,.s 41),(7,.s 42),(8,.i (i:Int))],[(40,some ⟨3,some (1,i),Aa ((Cs L (·.par) i).map Ah)⟩),(41,some ⟨101,some (3,i),Aa ((Cs L dcn i).map Av)⟩),(42,some ⟨4,some (1,i),Aa ((Cs L (fun x=>decide (x.st=1)) i).map Bq)⟩),(3,some ⟨46,none,[.sl 0,.o f,.i z]⟩),(0,some ⟨103,some (9,n),Aa ((L).map (Ag c))⟩)],50⟩
def Aar (k:Nat):Bxs→Bool
 | []=>true
 | (j,some e)::r => !Nat.beq j k&&(e.sl.isSome||e.its.all (It.av k))&&Aar k r
 | (_,none)::r=>Aar k r
theorem TX {k:Nat} : ∀ {B:Bxs},Aar k B=true→NpB B→avB k B=true
 | [],_,_=>rfl
 | (j,none)::r,h,hn=>TX (B:=r) h hn
 | (j,some e)::r,h,hn=>by
  simp only[Aar,avB,Bool.and_eq_true] at h ⊢;refine ⟨⟨h.1.1,?_⟩,TX h.2 hn.2⟩;rw[Bool.or_eq_true] at h;refine h.1.2.elim (fun hs => ?_) id
  have:=hn.1 hs;rw[List.all_eq_true] at this ⊢;intro x hx;have:=this x hx;cases x with
  | b _=>rfl
  | fp _=>rfl
  | ptr _ _=>cases this
  | sl _=>cases this
  | clo _ _=>cases this
theorem Jw {nt t k nx:Nat}{E:Env}{B:Bxs}(T s:Nat)(h:look E t=some (BA (.slice none 0 0)))(hnp:NpB B)(h1:(avE k E&&Aar k B&&Nat.blt k nx&&(Nat.beq k 2||Nat.ble 4 k))=true)(hB:AF B nx=none):Leads I nt ⟨E,B,nx⟩ ⟨(t,.s k)::E,(k,some ⟨T,some (s,0),[]⟩)::B,nx+1⟩:=by
 refine EP T s h ?_ hB;simp only[Bool.and_eq_true] at h1 ⊢;exact ⟨⟨⟨h1.1.1.1,TX h1.1.1.2 hnp⟩,h1.1.2⟩,h1.2⟩
theorem Tm (L:List Nd)(n:Nat)(f:Bool)(z:Int):Leads I 47 ⟨[(1,.p 3 0),(5,.cv (.one (.z))),(6,.cv (.one (.z))),(7,.cv (.one (.z))),(8,.i 0)],[(3,some ⟨46,none,[.sl 0,.o f,.i z]⟩),(0,some ⟨103,some (9,n),Aa ((L).map (Ag c))⟩)],47⟩ (RL c L n f z 0) :=
 (Jw (t:=5) (k:=40) 3 1 rfl (by repeat' first | exact trivial | exact fun h=>absurd h Bool.false_ne_true | exact fun _=>Ay _ | exact fun _=>rfl | exact fun _=>Ci (Ay _) rfl | refine ⟨?_,?_⟩) rfl rfl).trans ((Jw (t:=6) (k:=41) 101 3 rfl (by repeat' first | exact trivial | exact fun h=>absurd h Bool.false_ne_true | exact fun _=>Ay _ | exact fun _=>rfl | exact fun _=>Ci (Ay _) rfl | refine ⟨?_,?_⟩) rfl rfl).trans ((Jw (t:=7) (k:=42) 4 1 rfl (by repeat' first | exact trivial | exact fun h=>absurd h Bool.false_ne_true | exact fun _=>Ay _ | exact fun _=>rfl | exact fun _=>Ci (Ay _) rfl | refine ⟨?_,?_⟩) rfl rfl).trans (Jv ⟨rfl,rfl,rfl,rfl,rfl,trivial⟩ ⟨rfl,rfl,rfl,rfl,rfl,trivial⟩)))
theorem PY (L:List Nd)(n:Nat)(hn:L.length=n)(f:Bool)(z:Int)(i:Nat)(hi:i < L.length)(hl:n≤2002):Rnd Tryz.prog I 47 (AQ Tryz.prog 75 0) (RL c L n f z i) .normal (RL c L n f z (i+1)):=by
 exact Rnd.nam [(40,63),(41,72),(42,82)] (show Rnd _ _ _ _ _ _ ⟨[(1,.p 3 0),(5,.s 63),(6,.s 72),(7,.s 82),(8,.i ((i+1:Nat):Int))],[(63,some ⟨3,some (1,i+1),(Aa ((Cs L (·.par) i).map Ah))++([.i ((tat L i).par)])⟩),(72,some ⟨101,some (3,i+1),(Aa ((Cs L dcn i).map Av))++([.i ((tat L i).fst),.i ((tat L i).nxt),.o ((tat L i).tog)])⟩),(82,some ⟨4,some (1,i+1),(Aa ((Cs L (fun x=>decide (x.st=1)) i).map Bq))++([.o (decide (((tat L i).st)=1))])⟩),(3,some ⟨46,none,[.sl 0,.o f,.i z]⟩),(0,some ⟨103,some (9,n),Aa ((L).map (Ag c))⟩)],89⟩ from rr [pk (Al 3 (i:Int) (n:Nat)),⟨.ix (i:Int) i n,⟨by omega,by omega⟩⟩,⟨.part (Aa ((L).map (Ag c))) (i*9+0) 1 [.i ((tat L i).par)],(BL (c:=c) (fo:=0) (n:=1) hi rfl)⟩,⟨.ap i 1 8,⟨by omega,by simp[maxLen];omega⟩⟩,⟨.ix (i:Int) i n,⟨by omega,by omega⟩⟩,⟨.part (Aa ((L).map (Ag c))) (i*9+1) 3 [.i ((tat L i).fst),.i ((tat L i).nxt),.o ((tat L i).tog)],(BL (c:=c) (fo:=1) (n:=3) hi rfl)⟩,⟨.ap i 1 24,⟨by omega,by simp[maxLen];omega⟩⟩,⟨.ix (i:Int) i n,⟨by omega,by omega⟩⟩,⟨.part (Aa ((L).map (Ag c))) (i*9+8) 1 [.i ((tat L i).st)],(BL (c:=c) (fo:=8) (n:=1) hi rfl)⟩,pk (AT 3 ((tat L i).st) 1 (decide (((tat L i).st)=1)) rfl),⟨.ap i 1 1,⟨by omega,by simp[maxLen];omega⟩⟩,pk (AA 3 (i:Int) 1 ⟨by omega,by omega⟩)]) (t:=⟨[(1,.p 3 0),(5,.s 40),(6,.s 41),(7,.s 42),(8,.i ((i+1:Nat):Int))],[(40,some ⟨3,some (1,i+1),Aa ((Cs L (·.par) (i+1)).map Ah)⟩),(41,some ⟨101,some (3,i+1),Aa ((Cs L dcn (i+1)).map Av)⟩),(42,some ⟨4,some (1,i+1),Aa ((Cs L (fun x=>decide (x.st=1)) (i+1)).map Bq)⟩),(3,some ⟨46,none,[.sl 0,.o f,.i z]⟩),(0,some ⟨103,some (9,n),Aa ((L).map (Ag c))⟩)],50⟩) ⟨rfl,TVle.refl,rfl,TVle.refl,rfl,TVle.refl,rfl,TVle.refl,rfl,TVle.refl,trivial⟩ ⟨rfl,rfl,rfl,ILe.eq (show (Aa ((Cs L (·.par) i).map Ah))++([.i ((tat L i).par)])=Aa ((Cs L (·.par) (i+1)).map Ah) from (by rw[DY,List.map_append,CF];rfl)),rfl,rfl,rfl,ILe.eq (show (Aa ((Cs L dcn i).map Av))++([.i ((tat L i).fst),.i ((tat L i).nxt),.o ((tat L i).tog)])=Aa ((Cs L dcn (i+1)).map Av) from (by rw[DY,List.map_append,CF];rfl)),rfl,rfl,rfl,ILe.eq (show (Aa ((Cs L (fun x=>decide (x.st=1)) i).map Bq))++([.o (decide (((tat L i).st)=1))])=Aa ((Cs L (fun x=>decide (x.st=1)) (i+1)).map Bq) from (by rw[DY,List.map_append,CF];rfl)),rfl,rfl,rfl,ILe.refl,rfl,rfl,rfl,ILe.refl,trivial⟩
theorem R5 (L:List Nd)(f:Bool)(z:Int)(n:Nat)(hn:L.length=n)(hl:n≤2002):LoopTr Tryz.prog I 47 (AQ Tryz.prog 75 0) ⟨[(1,.p 3 0),(5,.cv (.one (.z))),(6,.cv (.one (.z))),(7,.cv (.one (.z))),(8,.i 0)],[(3,some ⟨46,none,[.sl 0,.o f,.i z]⟩),(0,some ⟨103,some (9,n),Aa ((L).map (Ag c))⟩)],47⟩ (.exit 0) ⟨[(5,.s 40),(6,.s 41),(7,.s 42)],[(40,some ⟨3,some (1,n),Aa ((At L).map Ah)⟩),(41,some ⟨101,some (3,n),Aa ((AG L).map Av)⟩),(42,some ⟨4,some (1,n),Aa ((Ck L).map Bq)⟩),(0,some ⟨103,some (9,n),Aa ((L).map (Ag c))⟩)],50⟩:=by
 refine LoopTr.pre (Tm L n f z) (Bz (by simp) (fun i=>RL c L n f z i) n (fun i hi=>PY L n hn f z i (by omega) (by omega)) ?_)
 unfold RL;have e1:=EW L (·.par);have e2:=EW L dcn;have e3:=EW L (fun x=>decide (x.st=1))
 rw[hn] at e1 e2 e3;rw[e1,e2,e3];exact Rnd.nam [] (show Rnd _ _ _ _ _ _ ⟨[(5,.s 40),(6,.s 41),(7,.s 42)],[(40,some ⟨3,some (1,n),Aa ((At L).map Ah)⟩),(41,some ⟨101,some (3,n),Aa ((AG L).map Av)⟩),(42,some ⟨4,some (1,n),Aa ((Ck L).map Bq)⟩),(0,some ⟨103,some (9,n),Aa ((L).map (Ag c))⟩)],55⟩ from rr [pk (Ai 3 (n:Int) (n:Nat))]) (t:=⟨[(5,.s 40),(6,.s 41),(7,.s 42)],[(40,some ⟨3,some (1,n),Aa ((At L).map Ah)⟩),(41,some ⟨101,some (3,n),Aa ((AG L).map Av)⟩),(42,some ⟨4,some (1,n),Aa ((Ck L).map Bq)⟩),(0,some ⟨103,some (9,n),Aa ((L).map (Ag c))⟩)],50⟩) ⟨rfl,TVle.refl,rfl,TVle.refl,rfl,TVle.refl,trivial⟩ ⟨rfl,rfl,rfl,ILe.refl,rfl,rfl,rfl,ILe.refl,rfl,rfl,rfl,ILe.refl,rfl,rfl,rfl,ILe.refl,trivial⟩
theorem Nf (L:List Nd)(f:Bool)(z:Int)(n:Nat)(hn:L.length=n)(hl:n≤2002):SpM Tryz.prog I 75 [(0,some (nbx c L n))] [.ag [.sl 0,.o f,.i z]] [(0,some (nbx c L n))] (.tu [R3 L,Su L,Adc L]):=by
 have lo:=R5 (I:=I) (c:=c) L f z n hn hl;exact sm 47 [pl (lo),pm (AZ (I:=I) (t:=5) (k:=40) (E:=[(6,.s 41),(7,.s 42)]) (B:=[(41,some ⟨101,some (3,n),Aa ((AG L).map Av)⟩),(42,some ⟨4,some (1,n),Aa ((Ck L).map Bq)⟩),(0,some ⟨103,some (9,n),Aa ((L).map (Ag c))⟩)]) (nx:=50) (T:=3) (sz:=1) (n:=n) ((At L).map Ah) rfl (by rw[List.length_map,Dp];exact hn.symm) Ma rfl),pm (AZ (I:=I) (t:=6) (k:=41) (E:=[(5,.t (slI 1 ((At L).map (Ah)))),(7,.s 42)]) (B:=[(42,some ⟨4,some (1,n),Aa ((Ck L).map Bq)⟩),(0,some ⟨103,some (9,n),Aa ((L).map (Ag c))⟩)]) (nx:=50) (T:=101) (sz:=3) (n:=n) ((AG L).map Av) rfl (by rw[List.length_map,Fa];exact hn.symm) PM rfl),pm (AZ (I:=I) (t:=7) (k:=42) (E:=[(5,.t (slI 1 ((At L).map (Ah)))),(6,.t (slI 3 ((AG L).map (Av))))]) (B:=[(0,some ⟨103,some (9,n),Aa ((L).map (Ag c))⟩)]) (nx:=50) (T:=4) (sz:=1) (n:=n) ((Ck L).map Bq) rfl (by rw[List.length_map,GC];exact hn.symm) Uw rfl)]
def cfC (D:List De)(x:Ch)(k:Nat):Int:=if (dat D k).1=x.fst∧(dat D k).2.1=x.nxt then 20 else 0
theorem Vg {L:List Nd}{i:Nat}{x:Ch}:AU (cfC (Be L i) x) (Be L i).length 0=0↔Fb L i x.fst x.nxt=false:=by
 rw[Ky,Bp];constructor
 ·intro h d hd
  obtain ⟨k,hk,he⟩:=List.mem_iff_getElem.1 hd;have:=h k (Nat.zero_le _) (by omega)
  unfold cfC at this;rw[H0 hk,he] at this;intro hh;rw[if_pos hh] at this;omega
 ·intro h k _ hk
  have hk':k < (Be L i).length:=by omega
  have:=h (Be L i)[k] (List.getElem_mem hk');unfold cfC;rw[H0 hk',if_neg this]
def Aef (M:List Nd)(n:Nat)(f:Bool)(z:Int)(c':Bool)(x:Ch)(D:List De)(k:Int):Go.Proofs.YtdgbealknnmkoaaGreatDoor.St:=⟨[(3,.p 4 0),(4,.p 5 0),(7,.p 14 0),(16,.t (slI 3 ((D).map (Av)))),(17,.i k)],[(13,some ⟨103,some (9,n),Aa ((M).map (Ag true))⟩),(4,some ⟨28,none,[.i x.kind,.i x.node,.b (.it (fF c' 12 x.q)),.i x.fst,.i x.nxt,.i x.cost]⟩),(5,some ⟨46,none,[.z,.o false,.i 0]⟩),(14,some ⟨46,none,[.sl 13,.o f,.i z]⟩)],150⟩
theorem Vf (M:List Nd)(n:Nat)(f:Bool)(z:Int)(x:Ch)(D:List De)(hl:D.length≤100000) :
  (AU (cfC D x) D.length 0=0→LoopTr Tryz.prog I 250 (AQ Tryz.prog 29 0) (Aef M n f z c' x D ((0:Nat):Int)) (.exit 1) ⟨[(3,.p 4 0),(4,.p 5 0),(7,.p 14 0)],[(13,some ⟨103,some (9,n),Aa ((M).map (Ag true))⟩),(4,some ⟨28,none,[.i x.kind,.i x.node,.b (.it (fF c' 12 x.q)),.i x.fst,.i x.nxt,.i x.cost]⟩),(5,some ⟨46,none,[.z,.o false,.i 0]⟩),(14,some ⟨46,none,[.sl 13,.o f,.i z]⟩)],150⟩)∧(AU (cfC D x) D.length 0≠0→LoopTr Tryz.prog I 250 (AQ Tryz.prog 29 0) (Aef M n f z c' x D ((0:Nat):Int)) .ret ⟨[(4,.p 5 0),(5,.i 20)],[(5,some ⟨46,none,[.z,.o false,.i 0]⟩)],150⟩):=by
 refine Di (cfC D x) D.length (fun k=>Aef M n f z c' x D (k:Int)) (fun _=>⟨[(4,.p 5 0),(5,.i 20)],[(5,some ⟨46,none,[.z,.o false,.i 0]⟩)],150⟩) (fun k hk hc => ?_) ?_ (fun k hk hc => ?_)
 ·unfold cfC at hc
  by_cases h1:(dat D k).1=x.fst
  ·by_cases h2:(dat D k).2.1=x.nxt
   ·rw[if_pos ⟨h1,h2⟩] at hc;omega
   ·exact Rnd.nam [] (show Rnd _ _ _ _ _ _ ⟨[(3,.p 4 0),(4,.p 5 0),(7,.p 14 0),(16,.t (slI 3 ((D).map (Av)))),(17,.i ((k+1:Nat):Int))],[(13,some ⟨103,some (9,n),Aa ((M).map (Ag true))⟩),(4,some ⟨28,none,[.i x.kind,.i x.node,.b (.it (fF c' 12 x.q)),.i x.fst,.i x.nxt,.i x.cost]⟩),(5,some ⟨46,none,[.z,.o false,.i 0]⟩),(14,some ⟨46,none,[.sl 13,.o f,.i z]⟩)],175⟩ from rr [pk (AK 110 101 3 3 ((D).map (Av)) ((D).length:Int)),pk (Al 3 (k:Int) ((D).length:Int)),pk (Aj 110 101 3 ((D).map (Av)) k (k:Int) (Av (dat D k)) (Bb hk)),pk (AT 3 ((dat D k).1) x.fst true (decide_eq_true h1)),pk (Aj 110 101 3 ((D).map (Av)) k (k:Int) (Av (dat D k)) (Bb hk)),pk (AT 3 ((dat D k).2.1) x.nxt false (decide_eq_false h2)),pk (AA 3 (k:Int) 1 ⟨by omega,by omega⟩)]) (t:=⟨[(3,.p 4 0),(4,.p 5 0),(7,.p 14 0),(16,.t (slI 3 ((D).map (Av)))),(17,.i ((k+1:Nat):Int))],[(13,some ⟨103,some (9,n),Aa ((M).map (Ag true))⟩),(4,some ⟨28,none,[.i x.kind,.i x.node,.b (.it (fF c' 12 x.q)),.i x.fst,.i x.nxt,.i x.cost]⟩),(5,some ⟨46,none,[.z,.o false,.i 0]⟩),(14,some ⟨46,none,[.sl 13,.o f,.i z]⟩)],150⟩) ⟨rfl,TVle.refl,rfl,TVle.refl,rfl,TVle.refl,rfl,TVle.refl,rfl,TVle.refl,trivial⟩ ⟨rfl,rfl,rfl,ILe.refl,rfl,rfl,rfl,ILe.refl,rfl,rfl,rfl,ILe.refl,rfl,rfl,rfl,ILe.refl,trivial⟩
  ·exact Rnd.nam [] (show Rnd _ _ _ _ _ _ ⟨[(3,.p 4 0),(4,.p 5 0),(7,.p 14 0),(16,.t (slI 3 ((D).map (Av)))),(17,.i ((k+1:Nat):Int))],[(13,some ⟨103,some (9,n),Aa ((M).map (Ag true))⟩),(4,some ⟨28,none,[.i x.kind,.i x.node,.b (.it (fF c' 12 x.q)),.i x.fst,.i x.nxt,.i x.cost]⟩),(5,some ⟨46,none,[.z,.o false,.i 0]⟩),(14,some ⟨46,none,[.sl 13,.o f,.i z]⟩)],175⟩ from rr [pk (AK 110 101 3 3 ((D).map (Av)) ((D).length:Int)),pk (Al 3 (k:Int) ((D).length:Int)),pk (Aj 110 101 3 ((D).map (Av)) k (k:Int) (Av (dat D k)) (Bb hk)),pk (AT 3 ((dat D k).1) x.fst false (decide_eq_false h1)),pk (AA 3 (k:Int) 1 ⟨by omega,by omega⟩)]) (t:=⟨[(3,.p 4 0),(4,.p 5 0),(7,.p 14 0),(16,.t (slI 3 ((D).map (Av)))),(17,.i ((k+1:Nat):Int))],[(13,some ⟨103,some (9,n),Aa ((M).map (Ag true))⟩),(4,some ⟨28,none,[.i x.kind,.i x.node,.b (.it (fF c' 12 x.q)),.i x.fst,.i x.nxt,.i x.cost]⟩),(5,some ⟨46,none,[.z,.o false,.i 0]⟩),(14,some ⟨46,none,[.sl 13,.o f,.i z]⟩)],150⟩) ⟨rfl,TVle.refl,rfl,TVle.refl,rfl,TVle.refl,rfl,TVle.refl,rfl,TVle.refl,trivial⟩ ⟨rfl,rfl,rfl,ILe.refl,rfl,rfl,rfl,ILe.refl,rfl,rfl,rfl,ILe.refl,rfl,rfl,rfl,ILe.refl,trivial⟩
 ·exact Rnd.nam [] (show Rnd _ _ _ _ _ _ ⟨[(3,.p 4 0),(4,.p 5 0),(7,.p 14 0)],[(13,some ⟨103,some (9,n),Aa ((M).map (Ag true))⟩),(4,some ⟨28,none,[.i x.kind,.i x.node,.b (.it (fF c' 12 x.q)),.i x.fst,.i x.nxt,.i x.cost]⟩),(5,some ⟨46,none,[.z,.o false,.i 0]⟩),(14,some ⟨46,none,[.sl 13,.o f,.i z]⟩)],154⟩ from rr [pk (AK 110 101 3 3 ((D).map (Av)) ((D).length:Int)),pk (Ai 3 (D.length:Int) ((D).length:Int))]) (t:=⟨[(3,.p 4 0),(4,.p 5 0),(7,.p 14 0)],[(13,some ⟨103,some (9,n),Aa ((M).map (Ag true))⟩),(4,some ⟨28,none,[.i x.kind,.i x.node,.b (.it (fF c' 12 x.q)),.i x.fst,.i x.nxt,.i x.cost]⟩),(5,some ⟨46,none,[.z,.o false,.i 0]⟩),(14,some ⟨46,none,[.sl 13,.o f,.i z]⟩)],150⟩) ⟨rfl,TVle.refl,rfl,TVle.refl,rfl,TVle.refl,trivial⟩ ⟨rfl,rfl,rfl,ILe.refl,rfl,rfl,rfl,ILe.refl,rfl,rfl,rfl,ILe.refl,rfl,rfl,rfl,ILe.refl,trivial⟩
 ·unfold cfC at hc
  by_cases h:(dat D k).1=x.fst∧(dat D k).2.1=x.nxt
  ·obtain ⟨h1,h2⟩:=h
   exact rr [pk (AK 110 101 3 3 ((D).map (Av)) ((D).length:Int)),pk (Al 3 (k:Int) ((D).length:Int)),pk (Aj 110 101 3 ((D).map (Av)) k (k:Int) (Av (dat D k)) (Bb hk)),pk (AT 3 ((dat D k).1) x.fst true (decide_eq_true h1)),pk (Aj 110 101 3 ((D).map (Av)) k (k:Int) (Av (dat D k)) (Bb hk)),pk (AT 3 ((dat D k).2.1) x.nxt true (decide_eq_true h2))]
  ·rw[if_neg h] at hc;exact absurd rfl hc
def AbW (M:List Nd)(n:Nat)(f:Bool)(z:Int)(i:Int):Go.Proofs.YtdgbealknnmkoaaGreatDoor.St:=⟨[(4,.p 5 0),(7,.p 14 0),(19,.i i)],[(13,some ⟨103,some (9,n),Aa ((M).map (Ag true))⟩),(5,some ⟨46,none,[.z,.o false,.i 0]⟩),(14,some ⟨46,none,[.sl 13,.o f,.i z]⟩)],300⟩
theorem XQ {f:Bool}{z:Int}{q:Rat}(h:okc q=true):DQ f z q=QB f z q:=by unfold DQ QB;rw[h,Bool.true_and]
theorem PT (M:List Nd)(f:Bool)(z:Int)(n:Nat)(hn:M.length=n)(hl:n≤2002)(i:Nat)(hi:i < M.length)(hok:okc (tat M i).q=true):Rnd Tryz.prog I 250 (AQ Tryz.prog 29 1) (AbW M n f z (i:Int)) .normal (AbW (if (tat M i).st=0∧DQ f z (tat M i).q=true then M.set i ⟨(tat M i).par,(tat M i).fst,(tat M i).nxt,(tat M i).tog,(tat M i).q,2⟩ else M) n f z ((i+1:Nat):Int)):=by
 rw[XQ hok];by_cases h1:(tat M i).st=0
 ·cases h2:QB f z (tat M i).q with
  | true =>
   have hb:=Hg (I:=I) (c:=true) f z n hn (tat M i).q true h2;rw[if_pos ⟨h1,rfl⟩];exact Rnd.nam [] (show Rnd _ _ _ _ _ _ ⟨[(4,.p 5 0),(7,.p 14 0),(19,.i ((i+1:Nat):Int))],[(13,some ⟨103,some (9,n),Aa (((M).set i ⟨(tat M i).par,(tat M i).fst,(tat M i).nxt,(tat M i).tog,(tat M i).q,2⟩).map (Ag true))⟩),(5,some ⟨46,none,[.z,.o false,.i 0]⟩),(14,some ⟨46,none,[.sl 13,.o f,.i z]⟩)],331⟩ from rr [pk (Al 3 (i:Int) (n:Nat)),⟨.ix (i:Int) i n,⟨by omega,by omega⟩⟩,⟨.part (Aa ((M).map (Ag true))) (i*9+8) 1 [.i ((tat M i).st)],(BL (c:=true) (fo:=8) (n:=1) hi rfl)⟩,pk (AT 3 ((tat M i).st) 0 true (decide_eq_true h1)),⟨.ix (i:Int) i n,⟨by omega,by omega⟩⟩,⟨.part (Aa ((M).map (Ag true))) (i*9+4) 4 [.b (.it (fF true 12 (tat M i).q))],(BL (c:=true) (fo:=4) (n:=4) hi rfl)⟩,pom [13] (hb),⟨.ix (i:Int) i n,⟨by omega,by omega⟩⟩,⟨.upd (Aa ((M).map (Ag true))) (i*9+8) [.i 2] (Aa (((M).set i ⟨(tat M i).par,(tat M i).fst,(tat M i).nxt,(tat M i).tog,(tat M i).q,2⟩).map (Ag true))),(Jt (c:=true) (fo:=8) hi ⟨(tat M i).par,(tat M i).fst,(tat M i).nxt,(tat M i).tog,(tat M i).q,2⟩ rfl)⟩,pk (AA 3 (i:Int) 1 ⟨by omega,by omega⟩)]) (t:=⟨[(4,.p 5 0),(7,.p 14 0),(19,.i ((i+1:Nat):Int))],[(13,some ⟨103,some (9,n),Aa (((M).set i ⟨(tat M i).par,(tat M i).fst,(tat M i).nxt,(tat M i).tog,(tat M i).q,2⟩).map (Ag true))⟩),(5,some ⟨46,none,[.z,.o false,.i 0]⟩),(14,some ⟨46,none,[.sl 13,.o f,.i z]⟩)],300⟩) ⟨rfl,TVle.refl,rfl,TVle.refl,rfl,TVle.refl,trivial⟩ ⟨rfl,rfl,rfl,ILe.refl,rfl,rfl,rfl,ILe.refl,rfl,rfl,rfl,ILe.refl,trivial⟩
  | false =>
   have hb:=Hg (I:=I) (c:=true) f z n hn (tat M i).q false h2;rw[if_neg (fun h=>by cases h.2)]
   exact Rnd.nam [] (show Rnd _ _ _ _ _ _ ⟨[(4,.p 5 0),(7,.p 14 0),(19,.i ((i+1:Nat):Int))],[(13,some ⟨103,some (9,n),Aa ((M).map (Ag true))⟩),(5,some ⟨46,none,[.z,.o false,.i 0]⟩),(14,some ⟨46,none,[.sl 13,.o f,.i z]⟩)],325⟩ from rr [pk (Al 3 (i:Int) (n:Nat)),⟨.ix (i:Int) i n,⟨by omega,by omega⟩⟩,⟨.part (Aa ((M).map (Ag true))) (i*9+8) 1 [.i ((tat M i).st)],(BL (c:=true) (fo:=8) (n:=1) hi rfl)⟩,pk (AT 3 ((tat M i).st) 0 true (decide_eq_true h1)),⟨.ix (i:Int) i n,⟨by omega,by omega⟩⟩,⟨.part (Aa ((M).map (Ag true))) (i*9+4) 4 [.b (.it (fF true 12 (tat M i).q))],(BL (c:=true) (fo:=4) (n:=4) hi rfl)⟩,pom [13] (hb),pk (AA 3 (i:Int) 1 ⟨by omega,by omega⟩)]) (t:=⟨[(4,.p 5 0),(7,.p 14 0),(19,.i ((i+1:Nat):Int))],[(13,some ⟨103,some (9,n),Aa ((M).map (Ag true))⟩),(5,some ⟨46,none,[.z,.o false,.i 0]⟩),(14,some ⟨46,none,[.sl 13,.o f,.i z]⟩)],300⟩) ⟨rfl,TVle.refl,rfl,TVle.refl,rfl,TVle.refl,trivial⟩ ⟨rfl,rfl,rfl,ILe.refl,rfl,rfl,rfl,ILe.refl,rfl,rfl,rfl,ILe.refl,trivial⟩
 ·rw[if_neg (fun h=>h1 h.1)]
  exact Rnd.nam [] (show Rnd _ _ _ _ _ _ ⟨[(4,.p 5 0),(7,.p 14 0),(19,.i ((i+1:Nat):Int))],[(13,some ⟨103,some (9,n),Aa ((M).map (Ag true))⟩),(5,some ⟨46,none,[.z,.o false,.i 0]⟩),(14,some ⟨46,none,[.sl 13,.o f,.i z]⟩)],325⟩ from rr [pk (Al 3 (i:Int) (n:Nat)),⟨.ix (i:Int) i n,⟨by omega,by omega⟩⟩,⟨.part (Aa ((M).map (Ag true))) (i*9+8) 1 [.i ((tat M i).st)],(BL (c:=true) (fo:=8) (n:=1) hi rfl)⟩,pk (AT 3 ((tat M i).st) 0 false (decide_eq_false h1)),pk (AA 3 (i:Int) 1 ⟨by omega,by omega⟩)]) (t:=⟨[(4,.p 5 0),(7,.p 14 0),(19,.i ((i+1:Nat):Int))],[(13,some ⟨103,some (9,n),Aa ((M).map (Ag true))⟩),(5,some ⟨46,none,[.z,.o false,.i 0]⟩),(14,some ⟨46,none,[.sl 13,.o f,.i z]⟩)],300⟩) ⟨rfl,TVle.refl,rfl,TVle.refl,rfl,TVle.refl,trivial⟩ ⟨rfl,rfl,rfl,ILe.refl,rfl,rfl,rfl,ILe.refl,rfl,rfl,rfl,ILe.refl,trivial⟩
theorem AeM (L:List Nd)(f:Bool)(z:Int)(i j:Nat)(hi:i≤L.length)(hj:j < L.length):(tat (clP L f z i) j).q=(tat L j).q:=by
 have h:=Q3 L f z i hi j;have hg:L[j]? = some (tat L j):=Dm hj;have e:=Dm (L:=clP L f z i) (i:=j) (by rw[Gv];exact hj)
 rw[e,hg] at h;by_cases hji:j < i
 ·rw[if_pos hji] at h
  injection h with h;rw[h];unfold clN;split <;> rfl
 ·rw[if_neg hji] at h
  injection h with h;rw[h]
theorem Rq (L:List Nd)(f:Bool)(z:Int)(n:Nat)(hn:L.length=n)(hl:n≤2002)(hok : ∀ i,i < n→okc (tat L i).q=true):LoopTr Tryz.prog I 250 (AQ Tryz.prog 29 1) (AbW L n f z ((0:Nat):Int)) (.exit 3) ⟨[(4,.p 5 0),(7,.p 14 0)],[(13,some ⟨103,some (9,n),Aa (((clL L f z)).map (Ag true))⟩),(5,some ⟨46,none,[.z,.o false,.i 0]⟩),(14,some ⟨46,none,[.sl 13,.o f,.i z]⟩)],300⟩ :=
 Bz (by simp) (fun i=>AbW (clP L f z i) n f z (i:Int)) n (fun i hi=>by
  have hm:=Gv L f z i;exact PT (I:=I) (clP L f z i) f z n (by omega) hl i (by omega) (by rw[AeM L f z i i (by omega) (by omega)];exact hok i hi)) (by
  rw[Aac f z hn];generalize clL L f z=M;exact Rnd.nam [] (show Rnd _ _ _ _ _ _ ⟨[(4,.p 5 0),(7,.p 14 0)],[(13,some ⟨103,some (9,n),Aa ((M).map (Ag true))⟩),(5,some ⟨46,none,[.z,.o false,.i 0]⟩),(14,some ⟨46,none,[.sl 13,.o f,.i z]⟩)],305⟩ from rr [pk (Ai 3 (n:Int) (n:Nat))]) (t:=⟨[(4,.p 5 0),(7,.p 14 0)],[(13,some ⟨103,some (9,n),Aa ((M).map (Ag true))⟩),(5,some ⟨46,none,[.z,.o false,.i 0]⟩),(14,some ⟨46,none,[.sl 13,.o f,.i z]⟩)],300⟩) ⟨rfl,TVle.refl,rfl,TVle.refl,trivial⟩ ⟨rfl,rfl,rfl,ILe.refl,rfl,rfl,rfl,ILe.refl,rfl,rfl,rfl,ILe.refl,trivial⟩)
end
theorem Uh {L:List Nd}{f:Bool}{z:Int}(h:tvc L f z=0){i:Nat}(hi:i < L.length):okc (tat L i).q=true:=by
 obtain ⟨_,_,_,_,h5,_⟩:=FX h;have:=Bp.1 h5 i (Nat.zero_le _) (by omega)
 unfold CP at this;split at this
 ·omega
 ·cases hk:okc (tat L i).q with
  | true=>rfl
  | false=>rw[hk] at this;exact absurd this (by decide)
theorem AaD {L:List Nd}{i:Nat}(h:i < L.length):tat L i∈L:=by
 have:=Dm h;exact List.mem_of_getElem? this
theorem Abs {L:List Nd}{y:Nd}(h:y∈L) : ∃ i,i < L.length∧y=tat L i:=by
 obtain ⟨i,hi,e⟩:=List.mem_iff_getElem.1 h;have:=Dm hi;rw[List.getElem?_eq_getElem hi,e] at this;injection this with this;exact ⟨i,hi,this⟩
theorem Acf {L : List Nd} {f : Bool} {z : Int} {x : Ch} (h : tvc L f z = 0) (hc : chE L x = 0) : ∀ i, i < (chM L f z x).1.length → okc (tat (chM L f z x).1 i).q = true := by
 have hok:=fun i hi=>Uh h (i:=i) hi
 have hall : ∀ y∈L,okc y.q=true:=fun y hy=>by obtain ⟨i,hi,rfl⟩:=Abs hy;exact hok i hi
 suffices ∀ y∈(chM L f z x).1,okc y.q=true from fun i hi=>this _ (AaD hi)
 unfold chE at hc;unfold chM;by_cases k1:x.kind=1
 ·rw[if_pos k1] at hc ⊢
  unfold raE at hc;by_cases h1:x.node < 0∨(L.length:Int)≤x.node
  ·rw[if_pos h1] at hc;omega
  ·rw[if_neg h1] at hc
   cases h3:okc x.q with
   | false=>rw[h3,if_pos rfl] at hc;omega
   | true =>
    intro y hy;unfold raL at hy
    dsimp only at hy
    split at hy
    ·rcases List.mem_or_eq_of_mem_set hy with hy | rfl
     ·exact hall y hy
     ·exact h3
    ·exact hall y hy
 ·rw[if_neg k1] at hc ⊢
  by_cases k2:x.kind=2
  ·rw[if_pos k2] at hc ⊢
   unfold spE at hc;by_cases h1:x.node < 0∨(L.length:Int)≤x.node∨x.fst < 0∨x.nxt < 0∨x.fst=x.nxt
   ·rw[if_pos h1] at hc;omega
   ·have hi:x.node.toNat < L.length:=by omega
    intro y hy;unfold spL at hy
    dsimp only at hy
    rcases List.mem_append.1 hy with hy | hy
    ·unfold Bo at hy
     rcases List.mem_or_eq_of_mem_set hy with hy | rfl
     ·exact hall y hy
     ·exact hok _ hi
    ·simp at hy
     rcases hy with rfl | rfl <;> exact hok _ hi
  ·rw[if_neg k2] at hc ⊢
   exact hall
section
variable {I:WInv}{c c':Bool}
theorem Rs (L : List Nd) (f : Bool) (z : Int) (x : Ch) (h : tvc L f z = 0) (hc : chE L x ≠ 0) : SpM Tryz.prog I 29 [] [trT c L f z, chT c' x] [] (.tu [.ag [.z, .o false, .i 0], ci (chE L x)]) := by
 obtain ⟨h1,h2,_,_,_,h6,_⟩:=FX h;have hD:=(PH h6).2;have va:=Gc (I:=I) (c:=c) L f z (by omega)
 rw[SQ,h] at va;have hco:=Sy (I:=I) (c:=c) L f z h1 (by omega)
 unfold chE at hc ⊢;by_cases k1:x.kind=1
 ·rw [if_pos k1] at hc ⊢
  unfold raE at hc ⊢;have hce:=BO (I:=I) (c:=c') (p:=x.q);by_cases g1:x.node < 0
  ·rw[if_pos (.inl g1)]
   cases h3:okc x.q with
   | true =>
    rw[Gx h3] at hce;exact sm 250 [po (va),pa,pom [] (hco),pk (By 3 x.node 0),pk (AT 3 x.kind 1 true (decide_eq_true (by omega))),po (hce),pa]
   | false =>
    rw[Lm h3] at hce;exact sm 250 [po (va),pa,pom [] (hco),pk (By 3 x.node 0),pk (AT 3 x.kind 1 true (decide_eq_true (by omega))),po (hce),pa]
  ·by_cases g2:(L.length:Int)≤x.node
   ·rw[if_pos (.inr g2)]
    cases h3:okc x.q with
    | true =>
     rw[Gx h3] at hce;exact sm 250 [po (va),pa,pom [] (hco),pk (Bx 3 x.node 0),pk (Ai 3 x.node (L.length:Nat)),pk (AT 3 x.kind 1 true (decide_eq_true (by omega))),po (hce),pa]
    | false =>
     rw[Lm h3] at hce;exact sm 250 [po (va),pa,pom [] (hco),pk (Bx 3 x.node 0),pk (Ai 3 x.node (L.length:Nat)),pk (AT 3 x.kind 1 true (decide_eq_true (by omega))),po (hce),pa]
   ·rw[if_neg (by omega)] at hc ⊢
    cases h3:okc x.q with
    | false =>
     rw[Lm h3] at hce;rw[if_pos rfl];exact sm 250 [po (va),pa,pom [] (hco),pk (Bx 3 x.node 0),pk (Al 3 x.node (L.length:Nat)),pk (AT 3 x.kind 1 true (decide_eq_true (by omega))),po (hce),pa,pa]
    | true =>
     rw[Gx h3] at hce;rw[h3,if_neg (by decide)] at hc
     rw[if_neg (by decide)]
     obtain ⟨i,hni⟩ : ∃ i:Nat,x.node=(i:Int):=⟨x.node.toNat,by omega⟩
     have hi:i < L.length:=by omega
     have ht:x.node.toNat=i:=by omega
     rw[ht] at hc ⊢;by_cases h4:(tat L i).st=0
     ·rw[if_neg (by simp[h4])] at hc;exact absurd rfl hc
     ·rw[if_pos h4]
      have hop:=Es (I:=I) (c:=true) f z L.length rfl i hi 16 (if_neg h4);rw[←hni] at hop;exact sm 250 [po (va),pa,pom [] (hco),pk (Bx 3 x.node 0),pk (Al 3 x.node (L.length:Nat)),pk (AT 3 x.kind 1 true (decide_eq_true (by omega))),po (hce),pa,pa,pom [13] (hop),pa]
 ·rw [if_neg k1] at hc ⊢
  by_cases k2:x.kind=2
  ·rw [if_pos k2] at hc ⊢
   unfold spE at hc ⊢;by_cases g1:x.node < 0
   ·rw[if_pos (.inl g1)]
    exact sm 250 [po (va),pa,pom [] (hco),pk (By 3 x.node 0),pk (Af 3 x.kind 1),pk (Am 3 x.kind 2),pa]
   ·by_cases g2 : (L.length : Int) ≤ x.node
    ·rw[if_pos (.inr (.inl g2))]
     exact sm 250 [po (va),pa,pom [] (hco),pk (Bx 3 x.node 0),pk (Ai 3 x.node (L.length:Nat)),pk (Af 3 x.kind 1),pk (Am 3 x.kind 2),pa]
    ·by_cases g3 : x.fst < 0
     ·rw[if_pos (.inr (.inr (.inl g3)))]
      exact sm 250 [po (va),pa,pom [] (hco),pk (Bx 3 x.node 0),pk (Al 3 x.node (L.length:Nat)),pk (Af 3 x.kind 1),pk (Am 3 x.kind 2),pa,pk (Al 3 x.fst 0)]
     ·by_cases g4 : x.nxt < 0
      ·rw[if_pos (.inr (.inr (.inr (.inl g4))))]
       exact sm 250 [po (va),pa,pom [] (hco),pk (Bx 3 x.node 0),pk (Al 3 x.node (L.length:Nat)),pk (Af 3 x.kind 1),pk (Am 3 x.kind 2),pa,pk (Ai 3 x.fst 0),pk (Al 3 x.nxt 0)]
      ·by_cases g5 : x.fst = x.nxt
       ·rw[if_pos (.inr (.inr (.inr (.inr g5))))]
        exact sm 250 [po (va),pa,pom [] (hco),pk (Bx 3 x.node 0),pk (Al 3 x.node (L.length:Nat)),pk (Af 3 x.kind 1),pk (Am 3 x.kind 2),pa,pk (Ai 3 x.fst 0),pk (Ai 3 x.nxt 0),pk (Am 3 x.fst x.nxt)]
       ·rw [if_neg (by omega)] at hc ⊢
        obtain ⟨i,hni⟩ : ∃ i:Nat,x.node=(i:Int):=⟨x.node.toNat,by omega⟩
        have hi:i < L.length:=by omega
        have ht:x.node.toNat=i:=by omega
        rw[ht] at hc ⊢;by_cases h4:(tat L i).st=0
        ·rw[if_neg (by simp[h4])] at hc ⊢
         have hop:=Es (I:=I) (c:=true) f z L.length rfl i hi 0 (if_pos h4);have hli:=Nf (I:=I) (c:=true) L f z L.length rfl (by omega)
         have hpa:=MM (I:=I) L (by omega) i hi (fun j h0 hj=>hD j h0 (by omega))
         have hcf:=Vg (L:=L) (i:=i) (x:=x);have hlen:=Hu L i;rw[←hni] at hop hpa;have lo:=(Vf (I:=I) (c':=c') L L.length f z x (Be L i) (by omega)).2
         generalize Be L i=D at *;by_cases h7:2000 < L.length+2
         ·rw[if_pos (.inl h7)]
          exact sm 250 [po (va),pa,pom [] (hco),pk (Bx 3 x.node 0),pk (Al 3 x.node (L.length:Nat)),pk (Af 3 x.kind 1),pk (Am 3 x.kind 2),pa,pk (Ai 3 x.fst 0),pk (Ai 3 x.nxt 0),pk (Af 3 x.fst x.nxt),pom [13] (hop),pa,pom [13] (hli),po (hpa),pk (AA 3 (L.length:Nat) 2 ⟨by omega,by omega⟩),pk (Cc 3 ((L.length:Nat)+2) 2000)]
         ·by_cases h8:32≤D.length
          ·rw[if_pos (.inr h8)]
           exact sm 250 [po (va),pa,pom [] (hco),pk (Bx 3 x.node 0),pk (Al 3 x.node (L.length:Nat)),pk (Af 3 x.kind 1),pk (Am 3 x.kind 2),pa,pk (Ai 3 x.fst 0),pk (Ai 3 x.nxt 0),pk (Af 3 x.fst x.nxt),pom [13] (hop),pa,pom [13] (hli),po (hpa),pk (AA 3 (L.length:Nat) 2 ⟨by omega,by omega⟩),pk (Aq 3 ((L.length:Nat)+2) 2000),pk (AK 110 101 3 3 ((D).map (Av)) ((D).length:Int)),pk (AA 3 ((D).length:Int) 1 ⟨by omega,by omega⟩),pk (Cc 3 (((D).length:Int)+1) 32)]
          ·rw[if_neg (by omega)] at hc ⊢
           cases h9:Fb L i x.fst x.nxt with
           | false=>rw[h9] at hc;exact absurd rfl hc
           | true =>
            have lo:=lo (fun hh=>by rw[hcf,h9] at hh;cases hh)
            rw[if_pos rfl];exact sm 250 [po (va),pa,pom [] (hco),pk (Bx 3 x.node 0),pk (Al 3 x.node (L.length:Nat)),pk (Af 3 x.kind 1),pk (Am 3 x.kind 2),pa,pk (Ai 3 x.fst 0),pk (Ai 3 x.nxt 0),pk (Af 3 x.fst x.nxt),pom [13] (hop),pa,pom [13] (hli),po (hpa),pk (AA 3 (L.length:Nat) 2 ⟨by omega,by omega⟩),pk (Aq 3 ((L.length:Nat)+2) 2000),pk (AK 110 101 3 3 ((D).map (Av)) ((D).length:Int)),pk (AA 3 ((D).length:Int) 1 ⟨by omega,by omega⟩),pk (Aq 3 (((D).length:Int)+1) 32),pl (lo)]
        ·rw[if_pos h4]
         have hop:=Es (I:=I) (c:=true) f z L.length rfl i hi 16 (if_neg h4);rw[←hni] at hop;exact sm 250 [po (va),pa,pom [] (hco),pk (Bx 3 x.node 0),pk (Al 3 x.node (L.length:Nat)),pk (Af 3 x.kind 1),pk (Am 3 x.kind 2),pa,pk (Ai 3 x.fst 0),pk (Ai 3 x.nxt 0),pk (Af 3 x.fst x.nxt),pom [13] (hop),pa]
  ·rw[if_neg k2] at hc ⊢
   by_cases k3:x.kind=3
   ·rw[if_pos k3] at hc ⊢
    have hc3:=EN (I:=I) x.cost;unfold fiE at hc ⊢;cases g:BN x.cost with
    | true=>rw[g] at hc;exact absurd rfl hc
    | false =>
     rw[g] at hc3;rw[if_neg (by decide)]
     by_cases g1:x.node < 0
     ·exact sm 250 [po (va),pa,pom [] (hco),pk (By 3 x.node 0),pk (Af 3 x.kind 1),pk (Af 3 x.kind 2),pk (Am 3 x.kind 3),po (hc3),pa]
     ·by_cases g2:(L.length:Int)≤x.node
      ·exact sm 250 [po (va),pa,pom [] (hco),pk (Bx 3 x.node 0),pk (Ai 3 x.node (L.length:Nat)),pk (Af 3 x.kind 1),pk (Af 3 x.kind 2),pk (Am 3 x.kind 3),po (hc3),pa]
      ·exact sm 250 [po (va),pa,pom [] (hco),pk (Bx 3 x.node 0),pk (Al 3 x.node (L.length:Nat)),pk (Af 3 x.kind 1),pk (Af 3 x.kind 2),pk (Am 3 x.kind 3),po (hc3),pa]
   ·rw[if_neg k3]
    by_cases g1:x.node < 0
    ·exact sm 250 [po (va),pa,pom [] (hco),pk (By 3 x.node 0),pk (Af 3 x.kind 1),pk (Af 3 x.kind 2),pk (Af 3 x.kind 3)]
    ·by_cases g2:(L.length:Int)≤x.node
     ·exact sm 250 [po (va),pa,pom [] (hco),pk (Bx 3 x.node 0),pk (Ai 3 x.node (L.length:Nat)),pk (Af 3 x.kind 1),pk (Af 3 x.kind 2),pk (Af 3 x.kind 3)]
     ·exact sm 250 [po (va),pa,pom [] (hco),pk (Bx 3 x.node 0),pk (Al 3 x.node (L.length:Nat)),pk (Af 3 x.kind 1),pk (Af 3 x.kind 2),pk (Af 3 x.kind 3)]
end
theorem XF {L:List Nd}{x:Ch}{i:Nat}(ht:x.node.toNat=i)(hi:i < L.length):Aa ((Bo L i).map (Ag true))++[Ag true ⟨x.node,x.fst,x.nxt,true,(tat (Bo L i) i).q,0⟩,Ag true ⟨x.node,x.fst,x.nxt,false,(tat (Bo L i) i).q,0⟩].flatten.map It.b=Aa ((spL L x).map (Ag true)):=by
 unfold spL kid;rw[ht,RF hi,List.map_append,CF];rfl
section
variable {I:WInv}{c c':Bool}
theorem Wc (L : List Nd) (f : Bool) (z : Int) (x : Ch) (h : tvc L f z = 0) (hc : chE L x = 0) : SpM Tryz.prog I 29 [] [trT c L f z, chT c' x] [(2, some (nbx true (chS L f z x).1 (chS L f z x).1.length))] (.tu [.ag [.sl 2, .b (.lit (.bool (chS L f z x).2.1)), .b (.lit (.int .i64 (chS L f z x).2.2))], ci 0]) := by
 obtain ⟨h1,h2,_,_,_,h6,_⟩:=FX h;have hD:=(PH h6).2;have va:=Gc (I:=I) (c:=c) L f z (by omega)
 rw[SQ,h] at va;have hco:=Sy (I:=I) (c:=c) L f z h1 (by omega)
 have hok:=Acf h hc;have hln:=Ve L f z x;have hsn:=Vd L f z x;rw[hsn];unfold chS;have lo:=Rq (I:=I) (chM L f z x).1 (chM L f z x).2.1 (chM L f z x).2.2 (chM L f z x).1.length rfl (by rw[hln];split <;> omega) hok
 rw[hln] at lo;unfold chE at hc;unfold chM at lo ⊢;by_cases k1:x.kind=1
 ·rw [if_pos k1] at hc
  rw[if_pos k1] at lo ⊢;rw[if_neg (show ¬ x.kind=2 by omega)] at lo ⊢
  dsimp only at lo ⊢
  unfold raE at hc;by_cases g:x.node < 0∨(L.length:Int)≤x.node
  ·rw[if_pos g] at hc;omega
  ·rw[if_neg g] at hc
   cases h3:okc x.q with
   | false=>rw[h3,if_pos rfl] at hc;omega
   | true =>
    have hce:=BO (I:=I) (c:=c') (p:=x.q);rw[Gx h3] at hce;rw[h3,if_neg (by decide)] at hc
    obtain ⟨i,hni⟩ : ∃ i:Nat,x.node=(i:Int):=⟨x.node.toNat,by omega⟩
    have hi:i < L.length:=by omega
    have ht:x.node.toNat=i:=by omega
    rw[ht] at hc;by_cases h4:(tat L i).st=0
    ·have hop:=Es (I:=I) (c:=true) f z L.length rfl i hi 0 (if_pos h4)
     rw[←hni] at hop;by_cases h5:(tat L i).q < x.q
     ·have hM:raL L x=L.set i ⟨(tat L i).par,(tat L i).fst,(tat L i).nxt,(tat L i).tog,x.q,(tat L i).st⟩:=by unfold raL;rw[ht,if_pos h5]
      rw[hM] at lo ⊢;generalize clL (L.set i ⟨(tat L i).par,(tat L i).fst,(tat L i).nxt,(tat L i).tog,x.q,(tat L i).st⟩) f z=K at *;exact sm 250 [po (va),pa,pom [] (hco),pk (Bx 3 x.node 0),pk (Al 3 x.node (L.length:Nat)),pk (AT 3 x.kind 1 true (decide_eq_true (by omega))),po (hce),pa,pa,pom [13] (hop),pa,⟨.ix x.node i L.length,⟨by omega,by omega⟩⟩,⟨.part (Aa ((L).map (Ag true))) (i*9+4) 4 [.b (.it (fF true 12 (tat L i).q))],(BL (c:=true) (fo:=4) (n:=4) hi rfl)⟩,po (Q1 (I:=I) (c:=c') (c':=true) (p:=x.q) (q:=(tat L i).q)),pk (Hi 3 (Fe x.q ((tat L i).q)) 0 true (S5 h5)),po (BC (I:=I) (c:=c') (k:=12) (p:=x.q) (by omega)),⟨.ix x.node i L.length,⟨by omega,by omega⟩⟩,⟨.upd (Aa ((L).map (Ag true))) (i*9+4) [.b (.it (fF true 12 x.q))] (Aa (((L).set i ⟨(tat L i).par,(tat L i).fst,(tat L i).nxt,(tat L i).tog,x.q,(tat L i).st⟩).map (Ag true))),(Jt (c:=true) (fo:=4) hi ⟨(tat L i).par,(tat L i).fst,(tat L i).nxt,(tat L i).tog,x.q,(tat L i).st⟩ rfl)⟩,pl (lo),pm ((show Leads I _ ⟨[(4,.p 5 0),(7,.p 14 0)],[(13,some ⟨103,some (9,L.length),Aa ((K).map (Ag true))⟩),(5,some ⟨46,none,[.z,.o false,.i 0]⟩),(14,some ⟨46,none,[.sl 13,.o f,.i z]⟩)],300⟩ ⟨[(4,.p 5 0),(7,.p 14 0)],[(2,some ⟨103,some (9,L.length),Aa ((K).map (Ag true))⟩),(5,some ⟨46,none,[.z,.o false,.i 0]⟩),(14,some ⟨46,none,[.sl 2,.o f,.i z]⟩)],300⟩ from AN [(2,13)] ⟨rfl,TVle.refl,rfl,TVle.refl,trivial⟩ ⟨rfl,rfl,rfl,ILe.refl,rfl,rfl,rfl,ILe.refl,rfl,rfl,rfl,ILe.refl,trivial⟩))]
     ·have hM:raL L x=L:=by unfold raL;rw[ht,if_neg h5]
      rw[hM] at lo ⊢;generalize clL L f z=K at *;exact sm 250 [po (va),pa,pom [] (hco),pk (Bx 3 x.node 0),pk (Al 3 x.node (L.length:Nat)),pk (AT 3 x.kind 1 true (decide_eq_true (by omega))),po (hce),pa,pa,pom [13] (hop),pa,⟨.ix x.node i L.length,⟨by omega,by omega⟩⟩,⟨.part (Aa ((L).map (Ag true))) (i*9+4) 4 [.b (.it (fF true 12 (tat L i).q))],(BL (c:=true) (fo:=4) (n:=4) hi rfl)⟩,po (Q1 (I:=I) (c:=c') (c':=true) (p:=x.q) (q:=(tat L i).q)),pk (Hi 3 (Fe x.q ((tat L i).q)) 0 false (S6 h5)),pl (lo),pm ((show Leads I _ ⟨[(4,.p 5 0),(7,.p 14 0)],[(13,some ⟨103,some (9,L.length),Aa ((K).map (Ag true))⟩),(5,some ⟨46,none,[.z,.o false,.i 0]⟩),(14,some ⟨46,none,[.sl 13,.o f,.i z]⟩)],300⟩ ⟨[(4,.p 5 0),(7,.p 14 0)],[(2,some ⟨103,some (9,L.length),Aa ((K).map (Ag true))⟩),(5,some ⟨46,none,[.z,.o false,.i 0]⟩),(14,some ⟨46,none,[.sl 2,.o f,.i z]⟩)],300⟩ from AN [(2,13)] ⟨rfl,TVle.refl,rfl,TVle.refl,trivial⟩ ⟨rfl,rfl,rfl,ILe.refl,rfl,rfl,rfl,ILe.refl,rfl,rfl,rfl,ILe.refl,trivial⟩))]
    ·rw[if_pos h4] at hc;omega
 ·rw [if_neg k1] at hc
  rw[if_neg k1] at lo ⊢;by_cases k2:x.kind=2
  ·rw [if_pos k2] at hc
   simp only[if_pos k2] at lo ⊢;unfold spE at hc;by_cases g:x.node < 0∨(L.length:Int)≤x.node∨x.fst < 0∨x.nxt < 0∨x.fst=x.nxt
   ·rw[if_pos g] at hc;omega
   ·rw[if_neg g] at hc
    obtain ⟨i,hni⟩ : ∃ i:Nat,x.node=(i:Int):=⟨x.node.toNat,by omega⟩
    have hi:i < L.length:=by omega
    have ht:x.node.toNat=i:=by omega
    rw[ht] at hc;by_cases h4:(tat L i).st=0
    ·rw[if_neg (by simp[h4])] at hc
     have hop:=Es (I:=I) (c:=true) f z L.length rfl i hi 0 (if_pos h4);have hli:=Nf (I:=I) (c:=true) L f z L.length rfl (by omega)
     have hpa:=MM (I:=I) L (by omega) i hi (fun j h0 hj=>hD j h0 (by omega))
     have hcf:=Vg (L:=L) (i:=i) (x:=x);have hlen:=Hu L i;rw[←hni] at hop hpa;have lc:=(Vf (I:=I) (c':=c') L L.length f z x (Be L i) (by omega)).1
     by_cases h7:2000 < L.length+2∨32≤(Be L i).length
     ·rw[if_pos h7] at hc;omega
     ·rw[if_neg h7] at hc
      cases h9:Fb L i x.fst x.nxt with
      | true=>rw[h9,if_pos rfl] at hc;omega
      | false =>
       have lc:=lc (hcf.2 h9);generalize Be L i=D at *;generalize clL (spL L x) f z=K at *;exact sm 250 [po (va),pa,pom [] (hco),pk (Bx 3 x.node 0),pk (Al 3 x.node (L.length:Nat)),pk (Af 3 x.kind 1),pk (Am 3 x.kind 2),pa,pk (Ai 3 x.fst 0),pk (Ai 3 x.nxt 0),pk (Af 3 x.fst x.nxt),pom [13] (hop),pa,pom [13] (hli),po (hpa),pk (AA 3 (L.length:Nat) 2 ⟨by omega,by omega⟩),pk (Aq 3 ((L.length:Nat)+2) 2000),pk (AK 110 101 3 3 ((D).map (Av)) ((D).length:Int)),pk (AA 3 ((D).length:Int) 1 ⟨by omega,by omega⟩),pk (Aq 3 (((D).length:Int)+1) 32),pl (lc),⟨.ix x.node i L.length,⟨by omega,by omega⟩⟩,⟨.upd (Aa ((L).map (Ag true))) (i*9+8) [.i 1] (Aa (((L).set i ⟨(tat L i).par,(tat L i).fst,(tat L i).nxt,(tat L i).tog,(tat L i).q,1⟩).map (Ag true))),(Jt (c:=true) (fo:=8) hi ⟨(tat L i).par,(tat L i).fst,(tat L i).nxt,(tat L i).tog,(tat L i).q,1⟩ rfl)⟩,⟨.ix x.node i L.length,⟨by omega,by omega⟩⟩,⟨.part (Aa (((L).set i ⟨(tat L i).par,(tat L i).fst,(tat L i).nxt,(tat L i).tog,(tat L i).q,1⟩).map (Ag true))) (i*9+4) 4 [.b (.it (fF true 12 (tat ((L).set i ⟨(tat L i).par,(tat L i).fst,(tat L i).nxt,(tat L i).tog,(tat L i).q,1⟩) i).q))],(BL (c:=true) (fo:=4) (n:=4) (by rw[List.length_set];exact hi) rfl)⟩,⟨.ap L.length 2 104,⟨by omega,by simp only[maxLen];omega⟩⟩,pm ((show Leads I _ ⟨[(4,.p 5 0),(7,.p 14 0)],[(187,some ⟨103,some (9,L.length+2),(Aa (((L).set i ⟨(tat L i).par,(tat L i).fst,(tat L i).nxt,(tat L i).tog,(tat L i).q,1⟩).map (Ag true)))++([.i x.node,.i x.fst,.i x.nxt,.o true,.b (.it (fF true 12 (tat ((L).set i ⟨(tat L i).par,(tat L i).fst,(tat L i).nxt,(tat L i).tog,(tat L i).q,1⟩) i).q)),.i 0,.i x.node,.i x.fst,.i x.nxt,.o false,.b (.it (fF true 12 (tat ((L).set i ⟨(tat L i).par,(tat L i).fst,(tat L i).nxt,(tat L i).tog,(tat L i).q,1⟩) i).q)),.i 0])⟩),(5,some ⟨46,none,[.z,.o false,.i 0]⟩),(14,some ⟨46,none,[.sl 187,.o f,.i z]⟩)],190⟩ ⟨[(4,.p 5 0),(7,.p 14 0)],[(13,some ⟨103,some (9,L.length+2),Aa ((spL L x).map (Ag true))⟩),(5,some ⟨46,none,[.z,.o false,.i 0]⟩),(14,some ⟨46,none,[.sl 13,.o f,.i z]⟩)],190⟩ from AN [(13,187)] ⟨rfl,TVle.refl,rfl,TVle.refl,trivial⟩ ⟨rfl,rfl,rfl,ILe.eq (show (Aa (((L).set i ⟨(tat L i).par,(tat L i).fst,(tat L i).nxt,(tat L i).tog,(tat L i).q,1⟩).map (Ag true)))++([.i x.node,.i x.fst,.i x.nxt,.o true,.b (.it (fF true 12 (tat ((L).set i ⟨(tat L i).par,(tat L i).fst,(tat L i).nxt,(tat L i).tog,(tat L i).q,1⟩) i).q)),.i 0,.i x.node,.i x.fst,.i x.nxt,.o false,.b (.it (fF true 12 (tat ((L).set i ⟨(tat L i).par,(tat L i).fst,(tat L i).nxt,(tat L i).tog,(tat L i).q,1⟩) i).q)),.i 0])=Aa ((spL L x).map (Ag true)) from (XF ht hi)),rfl,rfl,rfl,ILe.refl,rfl,rfl,rfl,ILe.refl,trivial⟩)),pl (lo),pm ((show Leads I _ ⟨[(4,.p 5 0),(7,.p 14 0)],[(13,some ⟨103,some (9,L.length+2),Aa ((K).map (Ag true))⟩),(5,some ⟨46,none,[.z,.o false,.i 0]⟩),(14,some ⟨46,none,[.sl 13,.o f,.i z]⟩)],300⟩ ⟨[(4,.p 5 0),(7,.p 14 0)],[(2,some ⟨103,some (9,L.length+2),Aa ((K).map (Ag true))⟩),(5,some ⟨46,none,[.z,.o false,.i 0]⟩),(14,some ⟨46,none,[.sl 2,.o f,.i z]⟩)],300⟩ from AN [(2,13)] ⟨rfl,TVle.refl,rfl,TVle.refl,trivial⟩ ⟨rfl,rfl,rfl,ILe.refl,rfl,rfl,rfl,ILe.refl,rfl,rfl,rfl,ILe.refl,trivial⟩))]
    ·rw[if_pos h4] at hc;omega
  ·rw [if_neg k2] at hc
   simp only[if_neg k2] at lo ⊢;by_cases k3:x.kind=3
   ·rw [if_pos k3] at hc
    have hc3:=EN (I:=I) x.cost;unfold fiE at hc;cases g:BN x.cost with
    | false=>rw[g] at hc;exact absurd hc (by decide)
    | true =>
     rw[g] at hc3;unfold fnF at lo ⊢;cases f with
     | false =>
      simp only[true_or,if_true] at lo ⊢;generalize clL L true x.cost=K at *;by_cases g1:x.node < 0
      ·exact sm 250 [po (va),pa,pom [] (hco),pk (By 3 x.node 0),pk (Af 3 x.kind 1),pk (Af 3 x.kind 2),pk (Am 3 x.kind 3),po (hc3),pa,pa,pl (lo),pm ((show Leads I _ ⟨[(4,.p 5 0),(7,.p 14 0)],[(13,some ⟨103,some (9,L.length),Aa ((K).map (Ag true))⟩),(5,some ⟨46,none,[.z,.o false,.i 0]⟩),(14,some ⟨46,none,[.sl 13,.o true,.i x.cost]⟩)],300⟩ ⟨[(4,.p 5 0),(7,.p 14 0)],[(2,some ⟨103,some (9,L.length),Aa ((K).map (Ag true))⟩),(5,some ⟨46,none,[.z,.o false,.i 0]⟩),(14,some ⟨46,none,[.sl 2,.o true,.i x.cost]⟩)],300⟩ from AN [(2,13)] ⟨rfl,TVle.refl,rfl,TVle.refl,trivial⟩ ⟨rfl,rfl,rfl,ILe.refl,rfl,rfl,rfl,ILe.refl,rfl,rfl,rfl,ILe.refl,trivial⟩))]
      ·by_cases g2:(L.length:Int)≤x.node
       ·exact sm 250 [po (va),pa,pom [] (hco),pk (Bx 3 x.node 0),pk (Ai 3 x.node (L.length:Nat)),pk (Af 3 x.kind 1),pk (Af 3 x.kind 2),pk (Am 3 x.kind 3),po (hc3),pa,pa,pl (lo),pm ((show Leads I _ ⟨[(4,.p 5 0),(7,.p 14 0)],[(13,some ⟨103,some (9,L.length),Aa ((K).map (Ag true))⟩),(5,some ⟨46,none,[.z,.o false,.i 0]⟩),(14,some ⟨46,none,[.sl 13,.o true,.i x.cost]⟩)],300⟩ ⟨[(4,.p 5 0),(7,.p 14 0)],[(2,some ⟨103,some (9,L.length),Aa ((K).map (Ag true))⟩),(5,some ⟨46,none,[.z,.o false,.i 0]⟩),(14,some ⟨46,none,[.sl 2,.o true,.i x.cost]⟩)],300⟩ from AN [(2,13)] ⟨rfl,TVle.refl,rfl,TVle.refl,trivial⟩ ⟨rfl,rfl,rfl,ILe.refl,rfl,rfl,rfl,ILe.refl,rfl,rfl,rfl,ILe.refl,trivial⟩))]
       ·exact sm 250 [po (va),pa,pom [] (hco),pk (Bx 3 x.node 0),pk (Al 3 x.node (L.length:Nat)),pk (Af 3 x.kind 1),pk (Af 3 x.kind 2),pk (Am 3 x.kind 3),po (hc3),pa,pa,pl (lo),pm ((show Leads I _ ⟨[(4,.p 5 0),(7,.p 14 0)],[(13,some ⟨103,some (9,L.length),Aa ((K).map (Ag true))⟩),(5,some ⟨46,none,[.z,.o false,.i 0]⟩),(14,some ⟨46,none,[.sl 13,.o true,.i x.cost]⟩)],300⟩ ⟨[(4,.p 5 0),(7,.p 14 0)],[(2,some ⟨103,some (9,L.length),Aa ((K).map (Ag true))⟩),(5,some ⟨46,none,[.z,.o false,.i 0]⟩),(14,some ⟨46,none,[.sl 2,.o true,.i x.cost]⟩)],300⟩ from AN [(2,13)] ⟨rfl,TVle.refl,rfl,TVle.refl,trivial⟩ ⟨rfl,rfl,rfl,ILe.refl,rfl,rfl,rfl,ILe.refl,rfl,rfl,rfl,ILe.refl,trivial⟩))]
     | true =>
      by_cases g3:x.cost < z
      ·simp only[g3,or_true,if_true] at lo ⊢
       generalize clL L true x.cost=K at *;by_cases g1:x.node < 0
       ·exact sm 250 [po (va),pa,pom [] (hco),pk (By 3 x.node 0),pk (Af 3 x.kind 1),pk (Af 3 x.kind 2),pk (Am 3 x.kind 3),po (hc3),pa,pa,pk (Al 3 x.cost z),pl (lo),pm ((show Leads I _ ⟨[(4,.p 5 0),(7,.p 14 0)],[(13,some ⟨103,some (9,L.length),Aa ((K).map (Ag true))⟩),(5,some ⟨46,none,[.z,.o false,.i 0]⟩),(14,some ⟨46,none,[.sl 13,.o true,.i x.cost]⟩)],300⟩ ⟨[(4,.p 5 0),(7,.p 14 0)],[(2,some ⟨103,some (9,L.length),Aa ((K).map (Ag true))⟩),(5,some ⟨46,none,[.z,.o false,.i 0]⟩),(14,some ⟨46,none,[.sl 2,.o true,.i x.cost]⟩)],300⟩ from AN [(2,13)] ⟨rfl,TVle.refl,rfl,TVle.refl,trivial⟩ ⟨rfl,rfl,rfl,ILe.refl,rfl,rfl,rfl,ILe.refl,rfl,rfl,rfl,ILe.refl,trivial⟩))]
       ·by_cases g2:(L.length:Int)≤x.node
        ·exact sm 250 [po (va),pa,pom [] (hco),pk (Bx 3 x.node 0),pk (Ai 3 x.node (L.length:Nat)),pk (Af 3 x.kind 1),pk (Af 3 x.kind 2),pk (Am 3 x.kind 3),po (hc3),pa,pa,pk (Al 3 x.cost z),pl (lo),pm ((show Leads I _ ⟨[(4,.p 5 0),(7,.p 14 0)],[(13,some ⟨103,some (9,L.length),Aa ((K).map (Ag true))⟩),(5,some ⟨46,none,[.z,.o false,.i 0]⟩),(14,some ⟨46,none,[.sl 13,.o true,.i x.cost]⟩)],300⟩ ⟨[(4,.p 5 0),(7,.p 14 0)],[(2,some ⟨103,some (9,L.length),Aa ((K).map (Ag true))⟩),(5,some ⟨46,none,[.z,.o false,.i 0]⟩),(14,some ⟨46,none,[.sl 2,.o true,.i x.cost]⟩)],300⟩ from AN [(2,13)] ⟨rfl,TVle.refl,rfl,TVle.refl,trivial⟩ ⟨rfl,rfl,rfl,ILe.refl,rfl,rfl,rfl,ILe.refl,rfl,rfl,rfl,ILe.refl,trivial⟩))]
        ·exact sm 250 [po (va),pa,pom [] (hco),pk (Bx 3 x.node 0),pk (Al 3 x.node (L.length:Nat)),pk (Af 3 x.kind 1),pk (Af 3 x.kind 2),pk (Am 3 x.kind 3),po (hc3),pa,pa,pk (Al 3 x.cost z),pl (lo),pm ((show Leads I _ ⟨[(4,.p 5 0),(7,.p 14 0)],[(13,some ⟨103,some (9,L.length),Aa ((K).map (Ag true))⟩),(5,some ⟨46,none,[.z,.o false,.i 0]⟩),(14,some ⟨46,none,[.sl 13,.o true,.i x.cost]⟩)],300⟩ ⟨[(4,.p 5 0),(7,.p 14 0)],[(2,some ⟨103,some (9,L.length),Aa ((K).map (Ag true))⟩),(5,some ⟨46,none,[.z,.o false,.i 0]⟩),(14,some ⟨46,none,[.sl 2,.o true,.i x.cost]⟩)],300⟩ from AN [(2,13)] ⟨rfl,TVle.refl,rfl,TVle.refl,trivial⟩ ⟨rfl,rfl,rfl,ILe.refl,rfl,rfl,rfl,ILe.refl,rfl,rfl,rfl,ILe.refl,trivial⟩))]
      ·simp only[g3,or_false,Bool.true_eq_false,if_false] at lo ⊢
       generalize clL L true z=K at *;by_cases g1:x.node < 0
       ·exact sm 250 [po (va),pa,pom [] (hco),pk (By 3 x.node 0),pk (Af 3 x.kind 1),pk (Af 3 x.kind 2),pk (Am 3 x.kind 3),po (hc3),pa,pa,pk (Ai 3 x.cost z),pl (lo),pm ((show Leads I _ ⟨[(4,.p 5 0),(7,.p 14 0)],[(13,some ⟨103,some (9,L.length),Aa ((K).map (Ag true))⟩),(5,some ⟨46,none,[.z,.o false,.i 0]⟩),(14,some ⟨46,none,[.sl 13,.o true,.i z]⟩)],300⟩ ⟨[(4,.p 5 0),(7,.p 14 0)],[(2,some ⟨103,some (9,L.length),Aa ((K).map (Ag true))⟩),(5,some ⟨46,none,[.z,.o false,.i 0]⟩),(14,some ⟨46,none,[.sl 2,.o true,.i z]⟩)],300⟩ from AN [(2,13)] ⟨rfl,TVle.refl,rfl,TVle.refl,trivial⟩ ⟨rfl,rfl,rfl,ILe.refl,rfl,rfl,rfl,ILe.refl,rfl,rfl,rfl,ILe.refl,trivial⟩))]
       ·by_cases g2:(L.length:Int)≤x.node
        ·exact sm 250 [po (va),pa,pom [] (hco),pk (Bx 3 x.node 0),pk (Ai 3 x.node (L.length:Nat)),pk (Af 3 x.kind 1),pk (Af 3 x.kind 2),pk (Am 3 x.kind 3),po (hc3),pa,pa,pk (Ai 3 x.cost z),pl (lo),pm ((show Leads I _ ⟨[(4,.p 5 0),(7,.p 14 0)],[(13,some ⟨103,some (9,L.length),Aa ((K).map (Ag true))⟩),(5,some ⟨46,none,[.z,.o false,.i 0]⟩),(14,some ⟨46,none,[.sl 13,.o true,.i z]⟩)],300⟩ ⟨[(4,.p 5 0),(7,.p 14 0)],[(2,some ⟨103,some (9,L.length),Aa ((K).map (Ag true))⟩),(5,some ⟨46,none,[.z,.o false,.i 0]⟩),(14,some ⟨46,none,[.sl 2,.o true,.i z]⟩)],300⟩ from AN [(2,13)] ⟨rfl,TVle.refl,rfl,TVle.refl,trivial⟩ ⟨rfl,rfl,rfl,ILe.refl,rfl,rfl,rfl,ILe.refl,rfl,rfl,rfl,ILe.refl,trivial⟩))]
        ·exact sm 250 [po (va),pa,pom [] (hco),pk (Bx 3 x.node 0),pk (Al 3 x.node (L.length:Nat)),pk (Af 3 x.kind 1),pk (Af 3 x.kind 2),pk (Am 3 x.kind 3),po (hc3),pa,pa,pk (Ai 3 x.cost z),pl (lo),pm ((show Leads I _ ⟨[(4,.p 5 0),(7,.p 14 0)],[(13,some ⟨103,some (9,L.length),Aa ((K).map (Ag true))⟩),(5,some ⟨46,none,[.z,.o false,.i 0]⟩),(14,some ⟨46,none,[.sl 13,.o true,.i z]⟩)],300⟩ ⟨[(4,.p 5 0),(7,.p 14 0)],[(2,some ⟨103,some (9,L.length),Aa ((K).map (Ag true))⟩),(5,some ⟨46,none,[.z,.o false,.i 0]⟩),(14,some ⟨46,none,[.sl 2,.o true,.i z]⟩)],300⟩ from AN [(2,13)] ⟨rfl,TVle.refl,rfl,TVle.refl,trivial⟩ ⟨rfl,rfl,rfl,ILe.refl,rfl,rfl,rfl,ILe.refl,rfl,rfl,rfl,ILe.refl,trivial⟩))]
   ·rw[if_neg k3] at hc;omega
theorem OC (L:List Nd)(f:Bool)(z:Int)(hl:L.length≤1000000000)(x:Ch):Sp Tryz.prog I 29 [trT c L f z,chT c' x] (.tu [trT true (apS L f z x).1 (apS L f z x).2.1 (apS L f z x).2.2,ci (apC L f z x)]):=by
 by_cases h:tvc L f z=0
 ·have e:apC L f z x=chE L x:=by unfold apC;rw[if_neg (fun hh=>hh h)]
  unfold apS;rw[e];by_cases hc:chE L x=0
  ·rw[if_pos hc,hc]
   exact (Wc (I:=I) (c:=c) (c':=c') L f z x h hc).freeze (by rw[List.length_map]) Ge rfl
  ·rw[if_neg hc]
   exact Sp.errT ((Rs (I:=I) (c:=c) (c':=c') L f z x h hc).sp rfl)
 ·have e:apC L f z x=tvc L f z:=by unfold apC;rw[if_pos h]
  unfold apS;rw[e,if_neg h];have va:=Gc (I:=I) (c:=c) L f z hl;rw[SQ] at va;refine Sp.errT ?_;generalize tvc L f z=r at *;exact sr 250 [po (va),pk (AO 32 r 0)]
end
def cnt (L:List Nd):Nat→Nat→Int
 | 0,_=>0
 | m+1,i=>if pp L m=i then cnt L m i+2 else cnt L m i
theorem Q2 {L:List Nd}{M:Nat}(hn:L.length=2*M+1)(hp : ∀ m,m < M→prB L m=true) : ∀ m,m≤M → ∀ i,iat (clt L m) i=cnt L m i
 | 0,_,i=>by rw[clt,EV,cnt]
 | m+1,hm,i=>by rw[K0 hn hp (by omega),cnt,Q2 hn hp m (by omega) i]
theorem S4 (L:List Nd) : ∀ m i,cnt L m i % 2=0
 | 0,_=>rfl
 | m+1,i=>by
  rw[cnt];have:=S4 L m i;split <;> omega
theorem J8 (L:List Nd) : ∀ m i,0≤cnt L m i
 | 0,_=>Int.le_refl _
 | m+1,i=>by
  rw[cnt];have:=J8 L m i;split <;> omega
theorem S3 {L:List Nd} : ∀ {m i:Nat},cnt L m i=0 → ∀ k,k < m→pp L k≠i
 | 0,_,_,k,hk=>by omega
 | m+1,i,h,k,hk=>by
  rw[cnt] at h;have:=J8 L m i;by_cases hp:pp L m=i
  ·rw[if_pos hp] at h;omega
  ·rw[if_neg hp] at h
   by_cases hkm:k=m
   ·rw[hkm];exact hp
   ·exact S3 h k (by omega)
theorem S0 {L:List Nd} : ∀ {m i:Nat},(∀ k,k < m→pp L k≠i)→cnt L m i=0
 | 0,_,_=>rfl
 | m+1,i,h=>by rw[cnt,if_neg (h m (by omega))];exact S0 fun k hk=>h k (by omega)
theorem Ll {L L':List Nd} : ∀ {m i:Nat},(∀ k,k < m→pp L k=pp L' k)→cnt L m i=cnt L' m i
 | 0,_,_=>rfl
 | m+1,i,h=>by rw[cnt,cnt,h m (by omega),Ll fun k hk=>h k (by omega)]
structure Shp (L:List Nd) (M:Nat):Prop where
 len:L.length=2*M+1
 rpar:(tat L 0).par = -1
 rdec:dcn (tat L 0)=(0,0,false)
 prs : ∀ m,m < M→prB L m=true
 dep : ∀ i,i < L.length→(Be L i).length≤32
 twn : ∀ i,i < L.length→GO (Be L i)
 two : ∀ i,i < L.length→cnt L M i≤2
 spl : ∀ i,i < L.length→((tat L i).st=1↔cnt L M i=2)
 bnd : ∀ m,m < M→(tat L (pp L m)).q≤(tat L (2*m+1)).q∧(tat L (pp L m)).q≤(tat L (2*m+2)).q
theorem Up {L:List Nd}:shB L=true ↔ ∃ M,Shp L M:=by
 rw[Uq];constructor
 ·rintro ⟨h1,h2⟩
  unfold rpB rtB at h1;simp only[Bool.and_eq_true,List.all_eq_true,List.mem_range,decide_eq_true_eq,Bp] at h1;obtain ⟨⟨⟨⟨a1,a2⟩,a3⟩,a4⟩,a5⟩:=h1;have hn:L.length=2*(L.length / 2)+1:=by omega
  have ho:=fun i hi=>(Me hn (i:=i) hi).1 (a5 i (Nat.zero_le _) (by omega))
  have hc:=Q2 hn a4 _ (Nat.le_refl _);have hb:=(JA hn a4).1 fun j hj=>Bp.1 h2 j (Nat.zero_le _) (by omega)
  refine ⟨L.length / 2,hn,a1,a2,a4,fun i hi=>(ho i hi).2.2.1,fun i hi=>(ho i hi).2.2.2,fun i hi => ?_,fun i hi => ?_,hb⟩
  ·rw[←hc];exact (ho i hi).1
  ·rw[←hc];exact (ho i hi).2.1
 ·rintro ⟨M,h⟩
  have hM2:L.length / 2=M:=by have:=h.len;omega
  have hc:=Q2 h.len h.prs _ (Nat.le_refl _);refine ⟨?_,?_⟩
  ·unfold rpB rtB
   simp only[Bool.and_eq_true,List.all_eq_true,List.mem_range,decide_eq_true_eq,Bp,hM2];refine ⟨⟨⟨⟨h.rpar,h.rdec⟩,by have:=h.len;omega⟩,h.prs⟩,fun i _ hi => ?_⟩
   have hi:i < L.length:=by omega
   exact (Me h.len hi).2 ⟨by rw[hc];exact h.two i hi,by rw[hc];exact h.spl i hi,h.dep i hi,h.twn i hi⟩
  ·rw[Bp]
   exact fun j _ hj=>(JA h.len h.prs).2 h.bnd j (by omega)
structure Vld (L:List Nd) (f:Bool) (z:Int) (M:Nat):Prop where
 shp:Shp L M
 big:M≤999
 cst:BN z=true
 zer:z=0∨f=true
 ok : ∀ i,i < L.length→okc (tat L i).q=true
 st0 : ∀ i,i < L.length→0≤(tat L i).st∧(tat L i).st≤2
 cl : ∀ i,i < L.length→(tat L i).st≠1→((tat L i).st=2↔DQ f z (tat L i).q=true)
theorem P5 {L:List Nd}{f:Bool}{z:Int}:tvc L f z=0 ↔ ∃ M,Vld L f z M:=by
 constructor
 ·intro h
  obtain ⟨h1,h2,h3,h4,h5,h6,h7⟩:=FX h;obtain ⟨M,hs⟩:=Up.1 h6;have hl:=hs.len;refine ⟨M,hs,by omega,h3,h4,fun i hi=>Uh h hi,fun i hi => ?_,fun i hi hne => ?_⟩
  ·have:=Bp.1 h5 i (Nat.zero_le _) (by omega)
   unfold CP at this;split at this
   ·omega
   ·omega
  ·have:=Bp.1 h7 i (Nat.zero_le _) (by omega)
   unfold VO at this;rw[if_neg hne] at this;by_cases he:decide ((tat L i).st=2)=DQ f z (tat L i).q
   ·rw[←he];simp
   ·rw[if_neg he] at this;omega
 ·rintro ⟨M,h⟩
  have hl:=h.shp.len;have hb:=h.big;unfold tvc;rw[if_neg (by omega),if_neg (by rw[h.cst];rcases h.zer with hz | hf <;> simp[*])]
  have h5:AU (CP L) L.length 0=0:=Bp.2 fun i _ hi=>by
   have:=h.st0 i (by omega)
   unfold CP;rw[if_neg (by omega),h.ok i (by omega)];rfl
  rw[if_neg (fun hh=>hh h5),Up.2 ⟨M,h.shp⟩,if_neg (by decide)]
  exact Bp.2 fun i _ hi=>by
   have hc:=h.cl i (by omega)
   unfold VO;by_cases hne:(tat L i).st=1
   ·rw[if_pos hne]
   ·rw[if_neg hne]
    have:=hc hne;rw[if_pos (by cases hs:DQ f z (tat L i).q <;> simp[hs] at this ⊢ <;> exact this)]
theorem QI {L L':List Nd}(i:Nat):(∀ j,j≤i→(tat L j).par=(tat L' j).par∧dcn (tat L j)=dcn (tat L' j))→C9 L i=C9 L' i:=by
 induction i using Nat.strongRecOn with
 | _ i ih =>
  intro h;have hi:=(h i (Nat.le_refl _)).1;by_cases hc:0 < i∧(tat L i).par.toNat < i
  ·have e1:C9 L i=dcn (tat L i)::C9 L (tat L i).par.toNat:=by unfold C9;rw[K8,dif_pos hc,List.map_cons]
   have e2:C9 L' i=dcn (tat L' i)::C9 L' (tat L' i).par.toNat:=by unfold C9;rw[K8,dif_pos (by rw[←hi];exact hc),List.map_cons]
   rw[e1,e2,(h i (Nat.le_refl _)).2,←hi,ih _ hc.2 fun j hj=>h j (by omega)]
  ·have e1:C9 L i=[]:=by unfold C9;rw[K8,dif_neg hc];rfl
   have e2:C9 L' i=[]:=by unfold C9;rw[K8,dif_neg (by rw[←hi];exact hc)];rfl
   rw[e1,e2]
theorem L5 {L L':List Nd}{i:Nat}(h : ∀ j,j≤i→(tat L j).par=(tat L' j).par∧dcn (tat L j)=dcn (tat L' j)):Be L i=Be L' i:=by unfold Be;rw[QI i h]
theorem OE {L L':List Nd}{m:Nat}(h1:(tat L (2*m+1)).par=(tat L' (2*m+1)).par∧dcn (tat L (2*m+1))=dcn (tat L' (2*m+1)))(h2:(tat L (2*m+2)).par=(tat L' (2*m+2)).par∧dcn (tat L (2*m+2))=dcn (tat L' (2*m+2))):prB L m=prB L' m:=by
 have e1:=h1.2;unfold dcn at e1;injection e1 with f1 f2;injection f2 with f2 f3;unfold prB;rw[h1.1,h2.1,h1.2,h2.2,f1,f2]
theorem R0 {L L':List Nd}{m:Nat}(h1:(tat L (2*m+1)).par=(tat L' (2*m+1)).par):pp L m=pp L' m:=by unfold pp;rw[h1]
theorem Shp.same {L L':List Nd}{M:Nat}(h:Shp L M)(hl:L'.length=L.length)(hd : ∀ j,j < L.length→(tat L j).par=(tat L' j).par∧dcn (tat L j)=dcn (tat L' j))(hs : ∀ j,j < L.length→((tat L' j).st=1↔(tat L j).st=1))
  (hb : ∀ m,m < M→(tat L' (pp L m)).q≤(tat L' (2*m+1)).q∧(tat L' (pp L m)).q≤(tat L' (2*m+2)).q):Shp L' M:=by
 have hn:=h.len;have hpp : ∀ m,m < M→pp L m=pp L' m:=fun m hm=>R0 (hd _ (by omega)).1
 have hpd : ∀ i,i < L.length→Be L i=Be L' i:=fun i hi=>L5 fun j hj=>hd j (by omega)
 have hcn : ∀ i,cnt L M i=cnt L' M i:=fun i=>Ll hpp
 refine ⟨by omega,by rw[←(hd 0 (by omega)).1];exact h.rpar,by rw[←(hd 0 (by omega)).2];exact h.rdec,fun m hm => ?_,fun i hi => ?_,fun i hi => ?_,fun i hi => ?_,fun i hi => ?_,fun m hm => ?_⟩
 ·rw[←OE (hd _ (by omega)) (hd _ (by omega))];exact h.prs m hm
 ·rw[←hpd i (by omega)];exact h.dep i (by omega)
 ·rw[←hpd i (by omega)];exact h.twn i (by omega)
 ·rw[←hcn];exact h.two i (by omega)
 ·rw[←hcn,hs i (by omega)];exact h.spl i (by omega)
 ·rw[←hpp m hm];exact hb m hm
theorem Shp.leaf {L:List Nd}{M i:Nat}(h:Shp L M)(hi:i < L.length)(hs:(tat L i).st≠1):cnt L M i=0:=by
 have h1:=S4 L M i;have h2:=J8 L M i;have h3:=h.two i hi;have h4:=mt (h.spl i hi).2 hs;omega
theorem Gw {L:List Nd}{f:Bool}{z:Int}{i:Nat}(h:i < L.length):tat (clL L f z) i=clN f z (tat L i):=by
 unfold tat clL;rw[List.getD_eq_getElem?_getD,List.getD_eq_getElem?_getD,List.getElem?_map,List.getElem?_eq_getElem h];rfl
theorem Acc (L:List Nd)(f:Bool)(z:Int):(clL L f z).length=L.length:=List.length_map _
theorem Aca (f:Bool)(z:Int)(x:Nd):(clN f z x).par=x.par:=by unfold clN;split <;> rfl
theorem Acb (f:Bool)(z:Int)(x:Nd):dcn (clN f z x)=dcn x:=by unfold clN;split <;> rfl
theorem S7 (f:Bool)(z:Int)(x:Nd):(clN f z x).q=x.q:=by unfold clN;split <;> rfl
theorem Q4 (f:Bool)(z:Int)(x:Nd):(clN f z x).st=if x.st=0∧DQ f z x.q=true then 2 else x.st:=by unfold clN;split <;> rfl
structure Mid (L:List Nd) (f:Bool) (z:Int) (M:Nat):Prop where
 shp:Shp L M
 big:M≤999
 cst:BN z=true
 zer:z=0∨f=true
 ok : ∀ i,i < L.length→okc (tat L i).q=true
 st0 : ∀ i,i < L.length→0≤(tat L i).st∧(tat L i).st≤2
 cl : ∀ i,i < L.length→(tat L i).st=2→DQ f z (tat L i).q=true
theorem Mid.vld {L:List Nd}{f:Bool}{z:Int}{M:Nat}(h:Mid L f z M):Vld (clL L f z) f z M:=by
 have hl:=Acc L f z;refine ⟨h.shp.same hl (fun j hj => ?_) (fun j hj => ?_) (fun m hm => ?_),h.big,h.cst,h.zer,fun i hi => ?_,fun i hi => ?_,fun i hi hne => ?_⟩
 ·rw[Gw hj,Aca,Acb];exact ⟨rfl,rfl⟩
 ·rw[Gw hj,Q4]
  split
  ·rename_i hc;constructor <;> intro hh <;> omega
  ·exact Iff.rfl
 ·have hn:=h.shp.len
  obtain ⟨p1,p2,p3,_,_⟩:=EO (h.shp.prs m hm);rw[Gw (by omega),Gw (by omega),Gw (by omega),S7,S7,S7]
  exact h.shp.bnd m hm
 ·rw[hl] at hi;rw[Gw hi,S7];exact h.ok i hi
 ·rw[hl] at hi
  have:=h.st0 i hi;rw[Gw hi,Q4];split <;> omega
 ·rw[hl] at hi
  have h0:=h.st0 i hi;have hc:=h.cl i hi;rw[Gw hi,Q4] at hne;rw[Gw hi,Q4,S7];by_cases hh:(tat L i).st=0∧DQ f z (tat L i).q=true
  ·rw[if_pos hh];exact ⟨fun _=>hh.2,fun _=>rfl⟩
  ·rw[if_neg hh] at hne ⊢
   constructor
   ·exact hc
   ·intro hs
    by_cases h2:(tat L i).st=0
    ·exact absurd ⟨h2,hs⟩ hh
    ·omega
theorem VN {z z':Int}{q:Rat}(h:DQ true z q=true)(hz:z'≤z):DQ true z' q=true:=by
 unfold DQ at h ⊢;simp only[Bool.true_and,Bool.and_eq_true,decide_eq_true_eq] at h ⊢;exact ⟨h.1,by omega⟩
theorem Vld.mid {L:List Nd}{f:Bool}{z:Int}{M:Nat}(h:Vld L f z M):Mid L f z M:=⟨h.shp,h.big,h.cst,h.zer,h.ok,h.st0,fun i hi hs=>(h.cl i hi (by omega)).1 hs⟩
theorem Adx {L:List Nd}{x:Ch}(h:raE L x=0) : ∃ i:Nat,x.node=(i:Int)∧i < L.length∧okc x.q=true∧(tat L i).st=0:=by
 unfold raE at h;by_cases h1:x.node < 0∨(L.length:Int)≤x.node
 ·rw[if_pos h1] at h;omega
 ·rw[if_neg h1] at h
  cases h3:okc x.q with
  | false=>rw[h3,if_pos rfl] at h;omega
  | true =>
   rw[h3,if_neg (by decide)] at h
   refine ⟨x.node.toNat,by omega,by omega,rfl,?_⟩
   by_cases h4:(tat L x.node.toNat).st=0
   ·exact h4
   ·rw[if_pos h4] at h;omega
theorem Wf {L:List Nd}{f:Bool}{z:Int}{M:Nat}{x:Ch}(h:Vld L f z M)(hc:raE L x=0):Mid (raL L x) f z M:=by
 obtain ⟨i,hni,hi,hok,hst⟩:=Adx hc;have ht:x.node.toNat=i:=by omega
 unfold raL;rw[ht];by_cases hq:(tat L i).q < x.q
 ·rw[if_pos hq]
  have hl:(L.set i ⟨(tat L i).par,(tat L i).fst,(tat L i).nxt,(tat L i).tog,x.q,(tat L i).st⟩).length=L.length:=List.length_set;have hat:=fun j=>P8 (L:=L) (j:=j) (y:=⟨(tat L i).par,(tat L i).fst,(tat L i).nxt,(tat L i).tog,x.q,(tat L i).st⟩) hi
  generalize L.set i ⟨(tat L i).par,(tat L i).fst,(tat L i).nxt,(tat L i).tog,x.q,(tat L i).st⟩=L' at *;have hd : ∀ j,(tat L j).par=(tat L' j).par∧dcn (tat L j)=dcn (tat L' j)∧(tat L' j).st=(tat L j).st∧(j≠i→(tat L' j).q=(tat L j).q)∧(tat L j).q≤(tat L' j).q:=fun j=>by
   rw[hat j];by_cases hij:i=j
   ·subst hij;rw[if_pos rfl];exact ⟨rfl,rfl,rfl,fun h=>absurd rfl h,by show (tat L i).q≤x.q;grind⟩
   ·rw[if_neg hij];exact ⟨rfl,rfl,rfl,fun _=>rfl,by grind⟩
  have hi2:=hat i;rw[if_pos rfl] at hi2;have hleaf:=S3 (h.shp.leaf hi (by omega))
  refine ⟨h.shp.same hl (fun j _=>⟨(hd j).1,(hd j).2.1⟩) (fun j _=>by rw[(hd j).2.2.1]) (fun m hm => ?_),h.big,h.cst,h.zer,fun j hj => ?_,fun j hj => ?_,fun j hj hs => ?_⟩
  ·have:=h.shp.bnd m hm
   rw[(hd _).2.2.2.1 (hleaf m hm)];have a:=(hd (2*m+1)).2.2.2.2;have b:=(hd (2*m+2)).2.2.2.2;exact ⟨by grind,by grind⟩
  ·by_cases hij:j=i
   ·subst hij;rw[hi2];exact hok
   ·rw[(hd j).2.2.2.1 hij];exact h.ok j (by omega)
  ·rw[(hd j).2.2.1];exact h.st0 j (by omega)
  ·rw[(hd j).2.2.1] at hs
   by_cases hij:j=i
   ·subst hij;omega
   ·rw[(hd j).2.2.2.1 hij];exact h.mid.cl j (by omega) hs
 ·rw[if_neg hq];exact h.mid
theorem Zw {L:List Nd}{f:Bool}{z:Int}{M:Nat}{x:Ch}(h:Vld L f z M)(hc:fiE x=0):Mid L (fnF f z x).1 (fnF f z x).2 M:=by
 have hcost:BN x.cost=true:=by
  unfold fiE at hc;cases h1:BN x.cost with
  | true=>rfl
  | false=>rw[h1] at hc;exact absurd hc (by decide)
 have hm:=h.mid;unfold fnF;by_cases hf:f=false∨x.cost < z
 ·rw[if_pos hf]
  refine ⟨h.shp,h.big,hcost,.inr rfl,h.ok,h.st0,fun i hi hs => ?_⟩
  have hs2:=hm.cl i hi hs;cases f with
  | false=>exact absurd hs2 (by unfold DQ;simp)
  | true=>exact VN hs2 (show x.cost≤z from hf.elim (fun hh=>by cases hh) (fun hh=>by omega))
 ·rw[if_neg hf];exact hm
theorem Adg {L:List Nd}{x:Ch}(h:spE L x=0) : ∃ i:Nat,x.node=(i:Int)∧i < L.length∧0≤x.fst∧0≤x.nxt∧x.fst≠x.nxt∧(tat L i).st=0∧L.length+2≤2000∧(Be L i).length < 32∧Fb L i x.fst x.nxt=false:=by
 unfold spE at h;by_cases h0:x.node < 0∨(L.length:Int)≤x.node∨x.fst < 0∨x.nxt < 0∨x.fst=x.nxt
 ·rw[if_pos h0] at h;omega
 ·rw[if_neg h0] at h
  obtain ⟨i,hni⟩ : ∃ i:Nat,x.node=(i:Int):=⟨x.node.toNat,by omega⟩
  have ht:x.node.toNat=i:=by omega
  rw[ht] at h;by_cases h4:(tat L i).st=0
  ·rw[if_neg (by simp[h4])] at h
   by_cases h7:2000 < L.length+2∨32≤(Be L i).length
   ·rw[if_pos h7] at h;omega
   ·rw[if_neg h7] at h
    cases h9:Fb L i x.fst x.nxt with
    | true=>rw[h9,if_pos rfl] at h;omega
    | false=>exact ⟨i,hni,by omega,by omega,by omega,by omega,h4,by omega,by omega,h9⟩
  ·rw[if_pos h4] at h;omega
theorem Adf {L:List Nd}{x:Ch}{i:Nat}(ht:x.node.toNat=i)(hi:i < L.length):(spL L x).length=L.length+2∧(∀ j,j < L.length→(tat (spL L x) j).par=(tat L j).par∧dcn (tat (spL L x) j)=dcn (tat L j)∧(tat (spL L x) j).q=(tat L j).q∧(tat (spL L x) j).st=if j=i then 1 else (tat L j).st)∧tat (spL L x) L.length=kid L x true∧tat (spL L x) (L.length+1)=kid L x false:=by
 have hm:=ES L i;refine ⟨by unfold spL;rw[ht,List.length_append,hm];rfl,fun j hj => ?_,?_,?_⟩
 ·unfold spL
  rw[ht,QR (by omega)]
  unfold Bo;rw[P8 hi];by_cases hij:i=j
  ·subst hij;rw[if_pos rfl,if_pos rfl];exact ⟨rfl,rfl,rfl,rfl⟩
  ·rw[if_neg hij,if_neg (Ne.symm hij)];exact ⟨rfl,rfl,rfl,rfl⟩
 ·unfold tat spL
  rw[ht,List.getD_eq_getElem?_getD,List.getElem?_append_right (by omega),hm,Nat.sub_self];rfl
 ·unfold tat spL
  rw[ht,List.getD_eq_getElem?_getD,List.getElem?_append_right (by omega),hm,show L.length+1 - L.length=1 by omega];rfl
theorem VE {L:List Nd}{f:Bool}{z:Int}{M:Nat}{x:Ch}(h:Vld L f z M)(hc:spE L x=0):Mid (spL L x) f z (M+1):=by
 obtain ⟨i,hni,hi,g1,g2,g3,hst,hlen,hdep,hdec⟩:=Adg hc;have ht:x.node.toNat=i:=by omega
 obtain ⟨hl,hat,ka,kb⟩:=Adf ht hi;have hn:=h.shp.len;have hS:=h.shp;have hleaf:=h.shp.leaf hi (by omega)
 unfold kid at ka kb;rw[ht] at ka kb;generalize spL L x=L' at *;rw[hn] at ka kb;have hpd : ∀ j,j < L.length→Be L j=Be L' j:=fun j hj=>L5 fun k hk=>⟨(hat k (by omega)).1.symm,(hat k (by omega)).2.1.symm⟩
 have hpp : ∀ m,m < M→pp L m=pp L' m:=fun m hm=>R0 (hat _ (by omega)).1.symm
 have ppM:pp L' M=i:=by unfold pp;rw[ka];exact ht
 have pa:(tat L' (2*M+1)).par=(i:Int):=by rw[ka];exact hni
 have pb:(tat L' (2*M+1+1)).par=(i:Int):=by rw[kb];exact hni
 have pathA:Be L' (2*M+1)=Be L i++[(x.fst,x.nxt,true)]:=by
  rw[C7 pa (by omega),←hpd i hi,ka];rfl
 have R2:Be L' (2*M+1+1)=Be L i++[(x.fst,x.nxt,false)]:=by
  rw[C7 pb (by omega),←hpd i hi,kb];rfl
 have three : ∀ j,j < L'.length→j < L.length∨j=2*M+1∨j=2*M+1+1:=fun j hj=>by omega
 have cnt' : ∀ j,cnt L' (M+1) j=if i=j then cnt L M j+2 else cnt L M j:=fun j=>by
  rw[cnt,ppM,←Ll (L:=L) (L':=L') hpp]
 have cntOut : ∀ j,2*M+1≤j→cnt L M j=0:=fun j hj=>S0 fun k hk=>by
  have:=(EO (hS.prs k hk)).2.2.1;omega
 refine ⟨⟨by omega,?_,?_,fun m hm => ?_,fun j hj => ?_,fun j hj => ?_,fun j hj => ?_,fun j hj => ?_,fun m hm => ?_⟩,by omega,h.cst,h.zer,fun j hj => ?_,fun j hj => ?_,fun j hj hs => ?_⟩
 ·rw[(hat 0 (by omega)).1];exact hS.rpar
 ·rw[(hat 0 (by omega)).2.1];exact hS.rdec
 ·by_cases hmM:m < M
  ·rw[←OE ⟨(hat _ (by omega)).1.symm,(hat _ (by omega)).2.1.symm⟩ ⟨(hat _ (by omega)).1.symm,(hat _ (by omega)).2.1.symm⟩];exact hS.prs m hmM
  ·have:m=M:=by omega
   subst this;unfold prB;rw[ka,show 2*m+2=2*m+1+1 from rfl,kb];simp[dcn,g1,g2,g3];omega
 ·rcases three j hj with hj | rfl | rfl
  ·rw[←hpd j hj];exact hS.dep j hj
  ·rw[pathA,List.length_append];show _+1≤32;omega
  ·rw[R2,List.length_append];show _+1≤32;omega
 ·have hd:=Ky.1 hdec
  rcases three j hj with hj | rfl | rfl
  ·rw[←hpd j hj];exact hS.twn j hj
  ·rw[pathA,En];exact ⟨hS.twn i hi,hd⟩
  ·rw[R2,En];exact ⟨hS.twn i hi,hd⟩
 ·rw[cnt']
  by_cases hij:i=j
  ·rw[if_pos hij,←hij,hleaf];omega
  ·rw[if_neg hij]
   rcases three j hj with hj | hj | hj
   ·exact hS.two j hj
   ·rw[cntOut j (by omega)];omega
   ·rw[cntOut j (by omega)];omega
 ·rw[cnt']
  by_cases hij:i=j
  ·rw[if_pos hij,←hij,hleaf,(hat i hi).2.2.2,if_pos rfl]
   exact ⟨fun _=>rfl,fun _=>rfl⟩
  ·rw[if_neg hij]
   rcases three j hj with hj | rfl | rfl
   ·rw[(hat j hj).2.2.2,if_neg (Ne.symm hij)];exact hS.spl j hj
   ·rw[cntOut _ (by omega),ka];constructor <;> intro hh <;> simp at hh
   ·rw[cntOut _ (by omega),kb];constructor <;> intro hh <;> simp at hh
 ·by_cases hmM:m < M
  ·have:=hS.bnd m hmM
   have p3:=(EO (hS.prs m hmM)).2.2.1;rw[←hpp m hmM,(hat _ (by omega)).2.2.1,(hat _ (by omega)).2.2.1,(hat _ (by omega)).2.2.1];exact this
  ·have:m=M:=by omega
   subst this;rw[ppM,ka,show 2*m+2=2*m+1+1 from rfl,kb,(hat i hi).2.2.1];exact ⟨by grind,by grind⟩
 ·rcases three j hj with hj | rfl | rfl
  ·rw[(hat j hj).2.2.1];exact h.ok j hj
  ·rw[ka];exact h.ok i hi
  ·rw[kb];exact h.ok i hi
 ·rcases three j hj with hj | rfl | rfl
  ·have:=h.st0 j hj
   rw[(hat j hj).2.2.2];split <;> omega
  ·rw[ka];exact ⟨Int.le_refl _,by show (0:Int)≤2;decide⟩
  ·rw[kb];exact ⟨Int.le_refl _,by show (0:Int)≤2;decide⟩
 ·rcases three j hj with hj | rfl | rfl
  ·rw[(hat j hj).2.2.2] at hs
   by_cases hij:j=i
   ·rw[if_pos hij] at hs;omega
   ·rw[if_neg hij] at hs
    rw[(hat j hj).2.2.1];exact h.mid.cl j hj hs
  ·rw[ka] at hs;cases hs
  ·rw[kb] at hs;cases hs
theorem Ace {L:List Nd}{f:Bool}{z:Int}{M:Nat}{x:Ch}(h:Vld L f z M)(hc:chE L x=0) : ∃ M',Vld (chS L f z x).1 (chS L f z x).2.1 (chS L f z x).2.2 M':=by
 unfold chE at hc;unfold chS chM;by_cases k1:x.kind=1
 ·rw[if_pos k1] at hc ⊢
  exact ⟨M,(Wf h hc).vld⟩
 ·rw[if_neg k1] at hc ⊢
  by_cases k2:x.kind=2
  ·rw[if_pos k2] at hc ⊢
   exact ⟨M+1,(VE h hc).vld⟩
  ·rw[if_neg k2] at hc ⊢
   by_cases k3:x.kind=3
   ·rw[if_pos k3] at hc
    exact ⟨M,(Zw h hc).vld⟩
   ·rw[if_neg k3] at hc;omega
theorem Aee {L:List Nd}{f:Bool}{z:Int}{x:Ch}(h:tvc L f z=0)(hc:chE L x=0):tvc (chS L f z x).1 (chS L f z x).2.1 (chS L f z x).2.2=0:=by
 obtain ⟨M,hv⟩:=P5.1 h;exact P5.2 (Ace hv hc)
theorem Aau {L:List Nd}{f:Bool}{z:Int}{x:Ch}(hc:apC L f z x=0):tvc L f z=0∧chE L x=0∧apS L f z x=chS L f z x∧tvc (apS L f z x).1 (apS L f z x).2.1 (apS L f z x).2.2=0:=by
 have h0:tvc L f z=0:=by
  unfold apC at hc;by_cases h:tvc L f z=0
  ·exact h
  ·rw[if_pos h] at hc;exact hc
 have h1:chE L x=0:=by
  unfold apC at hc;rw[if_neg (fun h=>h h0)] at hc
  exact hc
 have e:apS L f z x=chS L f z x:=by unfold apS;rw[if_pos hc]
 exact ⟨h0,h1,e,by rw[e];exact Aee h0 h1⟩
theorem Yv {q:Rat}(h:okc q=true):Vld (DE q) false 0 0:=by
 have z : ∀ i,i < (DE q).length→i=0:=fun i hi=>by have:i < 1:=hi;omega
 refine ⟨⟨rfl,rfl,rfl,fun m hm=>by omega,fun i hi => ?_,fun i hi => ?_,fun i hi => ?_,fun i hi => ?_,fun m hm=>by omega⟩,by omega,by decide,.inl rfl,fun i hi => ?_,fun i hi => ?_,fun i hi hne => ?_⟩
 ·rw[z i hi,Dx];exact Nat.zero_le _
 ·rw[z i hi,Dx];exact List.Pairwise.nil
 ·rw[cnt];omega
 ·rw[z i hi,cnt];constructor <;> intro hh <;> cases hh
 ·rw[z i hi];exact h
 ·rw[z i hi];exact ⟨Int.le_refl _,by show (0:Int)≤2;decide⟩
 ·rw[z i hi]
  constructor
  ·intro hh;cases hh
  ·intro hh;unfold DQ at hh;simp at hh
def B7 (x m:Int):Int:=IntKind.i64.wrap ((BitVec.ofInt 64 x &&& BitVec.ofInt 64 m).toNat:Int)
def Bt (x:Int)(k:Nat):Int:=x.fdiv (2 ^ k)
theorem Dv (x m:Int)(h0:0≤m)(hm:m < 4611686018427387904):0≤B7 x m∧B7 x m≤m:=by
 obtain ⟨m,rfl⟩:=Int.eq_ofNat_of_zero_le h0;have h:(BitVec.ofInt 64 x &&& BitVec.ofInt 64 (m:Int)).toNat≤m:=by
  rw[BitVec.toNat_and];refine Nat.le_trans Nat.and_le_right ?_;rw[BitVec.ofInt_natCast,BitVec.toNat_ofNat];exact Nat.mod_le _ _
 unfold B7;generalize (BitVec.ofInt 64 x &&& BitVec.ofInt 64 (m:Int)).toNat=k at *;rw[IntWalk.i64_in _ ⟨by omega,by omega⟩]
 omega
section
variable {P:Program}
theorem BZ (t:TypeId)(x y:Int):Bh P (.bin .and t) [li x,li y] (li (B7 x y)):=B6 (vs:=[.int .i64 x,.int .i64 y]) fun w=>by
 rfl
theorem Ce (t:TypeId)(x:Int)(k:Nat)(hk:k≤64:=by omega):Bh P (.bin .shr t) [li x,BA (.int .u64 (k:Int))] (li (Bt x k)):=B6 (vs:=[.int .i64 x,.int .u64 (k:Int)]) fun w=>by
 have h : ¬ ((k:Int) < 0):=by omega
 simp[OpK.run,eqGuard,binOp,Op.shift,Bt,h,IntKind.bits,Nat.min_eq_left hk];exact (Int.fdiv_eq_ediv_of_nonneg _ (Int.le_of_lt (Int.pow_pos (by decide)))).symm
end
def atS (l:List Int)(i:Nat):Int:=if l.length=0 then B7 (i:Int) 65535 else B7 (iat l (i % l.length)) 65535+((i / l.length:Nat):Int)
def BM (n:Int):Rat:=Rat.divInt (B7 n 15 - 5) (1+B7 (Bt n 4) 3)
theorem WD {z:Int}(h : -100≤z)(h':z≤100):Lim 1 z:=by unfold Lim;omega
theorem Sb (n:Int):Lq (BM n) 12:=by
 have h1:=Dv n 15 (by omega) (by omega)
 have h2:=Dv (Bt n 4) 3 (by omega) (by omega)
 unfold BM;exact ⟨(Eg (WD (by omega) (by omega))).mono (by omega),(E0 (WD (by omega) (by omega)) (by omega)).mono (by omega),by omega⟩
theorem UE {q:Rat}(h:Lim 1 q.num):okc q=true:=by
 have:=AbX h;unfold Lim at this;unfold okc;exact decide_eq_true ⟨by omega,by omega⟩
theorem Zp (n:Int):okc (BM n)=true:=by
 have h1:=Dv n 15 (by omega) (by omega)
 have h2:=Dv (Bt n 4) 3 (by omega) (by omega)
 exact UE (Eg (WD (by omega) (by omega)))
section
variable {I:WInv}{c c':Bool}
theorem UP (n:Int):Sp Tryz.prog I 27 [ci n] (tfc true 12 (BM n)):=by
 have h1:=Dv n 15 (by omega) (by omega)
 have h2:=Dv (Bt n 4) 3 (by omega) (by omega)
 have e:BM n=(((B7 n 15 - 5:Int)):Rat) / (((1+B7 (Bt n 4) 3:Int)):Rat):=Rat.divInt_eq_div _ _;have hdiv:Sp Tryz.prog I 68 [fc true 2 (((B7 n 15 - 5:Int)):Rat),fc true 2 (((1+B7 (Bt n 4) 3:Int)):Rat)] (tfc true 12 (BM n)):=by
  have h:=(AdY (I:=I) (c:=true) (c':=true) (p:=(((B7 n 15 - 5:Int)):Rat)) (q:=(((1+B7 (Bt n 4) 3:Int)):Rat))).wk (args':=[fc true 2 (((B7 n 15 - 5:Int)):Rat),fc true 2 (((1+B7 (Bt n 4) 3:Int)):Rat)]) ⟨Kq (by omega),Kq (by omega),trivial⟩
  rw[←e] at h;exact h.rs (UT (Sb n)).tv
 exact sr 13 [pk (BZ 3 n 15),pk (NN 3 (B7 n 15) 5 ⟨by omega,by omega⟩),po (GW (I:=I) ((B7 n 15) - 5) ⟨by omega,by omega⟩),pk (Ce 3 n 4),pk (BZ 3 (Bt n 4) 3),pk (AA 3 1 (B7 (Bt n 4) 3) ⟨by omega,by omega⟩),po (GW (I:=I) (1+(B7 (Bt n 4) 3)) ⟨by omega,by omega⟩),po (hdiv)]
theorem AeO (l:List Int)(i:Nat)(hi:i≤100000)(hl:l.length≤35184372087808):Sp Tryz.prog I 21 [.t (slI 1 (l.map Ah)),ci (i:Int)] (li (atS l i)):=by
 unfold atS;by_cases h0:l.length=0
 ·rw[if_pos h0]
  exact sr 23 [pk (AK 40 3 3 1 ((l).map (Ah)) ((l).length:Int)),pk (Am 3 ((l).length:Int) 0),pk (BZ 3 (i:Int) 65535)]
 ·rw[if_neg h0]
  have h1:=Dv (iat l (i % l.length)) 65535 (by omega) (by omega)
  have h2:=Nat.div_le_self i l.length;have h3:=Nat.mod_lt i (Nat.pos_of_ne_zero h0);have e1:((i:Int)).tmod (l.length:Int)=((i % l.length:Nat):Int):=by rw[Int.tmod_eq_emod_of_nonneg (by omega)];rfl
  have e2:((i:Int)).tdiv (l.length:Int)=((i / l.length:Nat):Int):=by rw[Int.tdiv_eq_ediv_of_nonneg (by omega)];rfl
  generalize i / l.length=q at *;have hq:=e2;exact sr 23 [pk (AK 40 3 3 1 ((l).map (Ah)) ((l).length:Int)),pk (Af 3 ((l).length:Int) 0),pk (AK 40 3 3 1 ((l).map (Ah)) ((l).length:Int)),pk (Fz 3 (i:Int) (l.length:Int) (by omega)),pk (Aj 40 3 1 ((l).map (Ah)) (i % l.length) (((i:Int)).tmod ((l).length:Int)) (Ah (iat l (i % l.length))) (Az h3)),pk (BZ 3 (iat l (i % l.length)) 65535),pk (AK 40 3 3 1 ((l).map (Ah)) ((l).length:Int)),pk (hq▸NO 3 (i:Int) (l.length:Int) (by omega) (by rw[hq];exact ⟨by omega,by omega⟩)),pk (AA 3 (B7 (iat l (i % l.length)) 65535) (q:Int) ⟨by omega,by omega⟩)]
end
def Q5 (n:Int):Ch :=
 if 1+B7 n 3=1 then ⟨1+B7 n 3,(Bt n 2).tmod 7,BM (Bt n 4),0,0,0⟩
 else if 1+B7 n 3=2 then ⟨1+B7 n 3,(Bt n 2).tmod 7,0,B7 (Bt n 4) 3,B7 (Bt n 6) 3,0⟩
 else if 1+B7 n 3=3 then ⟨1+B7 n 3,0,0,0,0,B7 (Bt n 4) 31 - 8⟩
 else ⟨1+B7 n 3,(Bt n 2).tmod 7,0,0,0,0⟩
theorem Ra {N:Nat→Prop}{w:World}{g:Gh} : ∀ {xs ys:List It} {l:List Value},Bl N w g (xs++ys) l → ∃ l1 l2,l=l1++l2∧Bl N w g xs l1∧Bl N w g ys l2
 | [],_,l,h=>⟨[],l,rfl,rfl,h⟩
 | x::xs,_,l,⟨a,b,e,h1,h2⟩=>by
  obtain ⟨c,d,e2,h3,h4⟩:=Ra h2;exact ⟨a++c,d,by rw[e,e2,List.append_assoc],⟨a,c,rfl,h1,h3⟩,h4⟩
theorem ILe.app {a a' b b':List It}(h:ILe a a')(h':ILe b b'):ILe (a++b) (a'++b'):=fun N w g x hx=>by
 obtain ⟨l1,l2,e,h1,h2⟩:=Ra hx;rw[e];exact C4 (h N w g l1 h1) (h' N w g l2 h2)
theorem AcS:ILe zl [.b (.it (fF false 12 0))]:=by
 intro N w g x hx;have h:=AdN (c:=false) (k:=1) (k':=12) (q:=0) (by omega) N w g _ (Xn N w g (.agg x.toArray) ⟨x,rfl,hx⟩)
 obtain ⟨vs,e,hv⟩:=h;injection e with e;have e:=congrArg Array.toList e;simp only at e;subst e;exact hv
theorem TP {k n a b z:Value}:CTle (.ag ([.b (.lit k),.b (.lit n)]++(zl++[.b (.lit a),.b (.lit b),.b (.lit z)]))) (.ag ([.b (.lit k),.b (.lit n)]++([.b (.it (fF false 12 0))]++[.b (.lit a),.b (.lit b),.b (.lit z)]))):=(ILe.refl.app (AcS.app ILe.refl)).ag
section
variable {I:WInv}{c c':Bool}
theorem Aed (l:List Int)(i:Nat)(hi:i≤100000)(hl:l.length≤35184372087808):Sp Tryz.prog I 19 [.t (slI 1 (l.map Ah)),ci (i:Int)] (.cv (chT false (Q5 (atS l i)))):=by
 have ha:=AeO (I:=I) l i hi hl;generalize atS l i=n at *;have h3:=Dv n 3 (by omega) (by omega)
 have h31:=Dv (Bt n 4) 31 (by omega) (by omega)
 unfold Q5;by_cases k1:1+B7 n 3=1
 ·rw[if_pos k1]
  refine Sp.rs ?_ (CTle.tv (ILe.ag (ILe.cons XLe.refl (ILe.cons XLe.refl (ILe.cons (AcG (c:=true) (k:=12) (fun h=>by cases h) (Nat.le_refl _) rfl).x ILe.refl)))))
  exact sr 44 [po (ha),pk (BZ 3 n 3),pk (AA 3 1 (B7 n 3) ⟨by omega,by omega⟩),pk (Ce 3 n 2),pk (Fz 3 (Bt n 2) 7 (by omega)),pk (AT 3 (1+(B7 n 3)) 1 true (decide_eq_true (by omega))),pk (Ce 3 n 4),po (UP (I:=I) (Bt n 4))]
 ·rw[if_neg k1]
  by_cases k2:1+B7 n 3=2
  ·rw[if_pos k2]
   refine Sp.rs ?_ (TP (a := .int .i64 (B7 (Bt n 4) 3)) (b := .int .i64 (B7 (Bt n 6) 3)) (z := .int .i64 0)).tv;exact sr 44 [po (ha),pk (BZ 3 n 3),pk (AA 3 1 (B7 n 3) ⟨by omega,by omega⟩),pk (Ce 3 n 2),pk (Fz 3 (Bt n 2) 7 (by omega)),pk (AT 3 (1+(B7 n 3)) 1 false (decide_eq_false (by omega))),pk (AT 3 (1+(B7 n 3)) 2 true (decide_eq_true (by omega))),pk (Ce 3 n 4),pk (BZ 3 (Bt n 4) 3),pk (Ce 3 n 6),pk (BZ 3 (Bt n 6) 3)]
  ·rw[if_neg k2]
   by_cases k3:1+B7 n 3=3
   ·rw[if_pos k3]
    refine Sp.rs ?_ (TP (a := .int .i64 0) (b := .int .i64 0) (z := .int .i64 (B7 (Bt n 4) 31 - 8))).tv;exact sr 44 [po (ha),pk (BZ 3 n 3),pk (AA 3 1 (B7 n 3) ⟨by omega,by omega⟩),pk (Ce 3 n 2),pk (Fz 3 (Bt n 2) 7 (by omega)),pk (AT 3 (1+(B7 n 3)) 1 false (decide_eq_false (by omega))),pk (AT 3 (1+(B7 n 3)) 2 false (decide_eq_false (by omega))),pk (AT 3 (1+(B7 n 3)) 3 true (decide_eq_true (by omega))),pk (Ce 3 n 4),pk (BZ 3 (Bt n 4) 31),pk (NN 3 (B7 (Bt n 4) 31) 8 ⟨by omega,by omega⟩)]
   ·rw[if_neg k3]
    refine Sp.rs ?_ (TP (a := .int .i64 0) (b := .int .i64 0) (z := .int .i64 0)).tv;exact sr 44 [po (ha),pk (BZ 3 n 3),pk (AA 3 1 (B7 n 3) ⟨by omega,by omega⟩),pk (Ce 3 n 2),pk (Fz 3 (Bt n 2) 7 (by omega)),pk (AT 3 (1+(B7 n 3)) 1 false (decide_eq_false (by omega))),pk (AT 3 (1+(B7 n 3)) 2 false (decide_eq_false (by omega))),pk (AT 3 (1+(B7 n 3)) 3 false (decide_eq_false (by omega)))]
end
section
variable {I:WInv}{c:Bool}
theorem SO (L:List Nd)(f:Bool)(z:Int)(hL:L.length=1)(q1:(tat L 0).par = -1)(q2:dcn (tat L 0)=(0,0,false))(q3:(tat L 0).st=0):Sp Tryz.prog I 120 [trT c L f z] (lb true):=by
 have h00:0 < L.length:=by omega
 have lo:LoopTr Tryz.prog I 195 (AQ Tryz.prog 120 0) ⟨[(1,.p 0 0),(4,.s 27),(5,.s 32),(6,.i 1)],[(27,some ⟨3,some (1,L.length),Aa ((List.replicate L.length 0).map Ah)⟩),(32,some ⟨3,some (1,L.length),Aa ((List.replicate L.length 0).map Ah)⟩),(0,some ⟨46,none,[.b (.it (slI 9 ((L).map (Ag c)))),.o f,.i z]⟩)],50⟩ (.exit 0) ⟨[(1,.p 0 0),(5,.s 32)],[(27,some ⟨3,some (1,L.length),Aa ((List.replicate L.length 0).map Ah)⟩),(32,some ⟨3,some (1,L.length),Aa ((List.replicate L.length 0).map Ah)⟩),(0,some ⟨46,none,[.b (.it (slI 9 ((L).map (Ag c)))),.o f,.i z]⟩)],50⟩:=Bz (by simp) (fun _=>⟨[(1,.p 0 0),(4,.s 27),(5,.s 32),(6,.i 1)],[(27,some ⟨3,some (1,L.length),Aa ((List.replicate L.length 0).map Ah)⟩),(32,some ⟨3,some (1,L.length),Aa ((List.replicate L.length 0).map Ah)⟩),(0,some ⟨46,none,[.b (.it (slI 9 ((L).map (Ag c)))),.o f,.i z]⟩)],50⟩) 0 (fun m hm=>absurd hm (Nat.not_lt_zero _)) (by
  exact Rnd.cut2 (n:=50) (show Rnd _ _ _ _ _ _ ⟨[(1,.p 0 0),(5,.s 32)],[(27,some ⟨3,some (1,L.length),Aa ((List.replicate L.length 0).map Ah)⟩),(32,some ⟨3,some (1,L.length),Aa ((List.replicate L.length 0).map Ah)⟩),(0,some ⟨46,none,[.b (.it (slI 9 ((L).map (Ag c)))),.o f,.i z]⟩)],55⟩ from rr [pk (AK 44 103 3 9 ((L).map (Ag c)) ((L).length:Int)),pk (Ai 3 1 ((L).length:Int))]) rfl)
 have lo2:LoopTr Tryz.prog I 195 (AQ Tryz.prog 120 1) ⟨[(5,.s 32),(178,.t (slI 9 ((L).map (Ag c)))),(179,.i (L.length:Int)),(180,.i ((0:Nat):Int))],[(32,some ⟨3,some (1,L.length),Aa ((List.replicate L.length 0).map Ah)⟩)],90⟩ (.exit 2) ⟨[],[],50⟩:=Bz (by simp) (fun i=>⟨[(5,.s 32),(178,.t (slI 9 ((L).map (Ag c)))),(179,.i (L.length:Int)),(180,.i (i:Int))],[(32,some ⟨3,some (1,L.length),Aa ((List.replicate L.length 0).map Ah)⟩)],90⟩) L.length (fun i hi=>by
  have ci:i < (List.replicate L.length (0:Int)).length:=by rw[List.length_replicate];exact hi
  have h1 : ¬ (tat L i).st=1:=by rw[show i=0 by omega,q3];decide
  have h2 : ¬ 0 < iat (List.replicate L.length 0) i:=by rw[EV];decide
  exact Rnd.cut (n:=90) (show Rnd _ _ _ _ _ _ ⟨[(5,.s 32),(178,.t (slI 9 ((L).map (Ag c)))),(179,.i (L.length:Int)),(180,.i ((i:Int)+1))],[(32,some ⟨3,some (1,L.length),Aa ((List.replicate L.length 0).map Ah)⟩)],108⟩ from rr [pk (Al 3 (i:Int) (L.length:Int)),pk (Aj 44 103 9 ((L).map (Ag c)) i (i:Int) ((Ag c) (tat L i)) (AR hi)),pk (Af 3 ((tat L i).st) 1),⟨.ix (i:Int) i L.length,⟨by omega,by omega⟩⟩,⟨.part (Aa ((List.replicate L.length 0).map Ah)) (i*1) 1 [.i (iat (List.replicate L.length 0) (i))],(Un (D:=List.replicate L.length 0) ci)⟩,pk (Aq 3 (iat (List.replicate L.length 0) (i)) 0),pa,pk (AA 3 (i:Int) 1 ⟨by omega,by omega⟩)]) rfl) (rr [pk (Ai 3 (L.length:Int) (L.length:Int))])
 simp only[KB] at lo lo2;exact sr 195 [pk (Aj 44 103 9 ((L).map (Ag c)) 0 0 ((Ag c) (tat L 0)) (AR h00)),pk (As 3 ((tat L 0).par) (-1)),pk (AcJ (dcn (tat L 0)) (0,0,false) false (decide_eq_true q2)),pk (AK 44 103 3 9 ((L).map (Ag c)) ((L).length:Int)),pk (Fz 3 ((L).length:Int) 2 (by omega)),pk (AT 3 ((((L).length:Int)).tmod 2) 0 false (decide_eq_false (by rw[hL];decide))),pk (AK 44 103 3 9 ((L).map (Ag c)) ((L).length:Int)),⟨.mk ((L).length:Int) L.length 8,⟨rfl,by omega,by simp[maxLen];omega⟩⟩,⟨.mk ((L).length:Int) L.length 8,⟨rfl,by omega,by simp[maxLen];omega⟩⟩,pk (AK 44 103 3 9 ((L).map (Ag c)) ((L).length:Int)),⟨.mk ((L).length:Int) L.length 8,⟨rfl,by omega,by simp[maxLen];omega⟩⟩,⟨.mk ((L).length:Int) L.length 8,⟨rfl,by omega,by simp[maxLen];omega⟩⟩,pl (lo),pk (AK 44 103 3 9 ((L).map (Ag c)) ((L).length:Int)),pl (lo2)]
theorem X0 (L:List Nd)(hL:L.length=1)(q1:(tat L 0).par = -1)(q2:dcn (tat L 0)=(0,0,false))(q3:(tat L 0).st=0)(q4:okc (tat L 0).q=true):Sp Tryz.prog I 79 [trT c L false 0] (li 0):=by
 have hc:=Qx (I:=I) 0;rw[show BN 0=true by decide] at hc
 have hs:=SO (I:=I) (c:=c) L false 0 hL q1 q2 q3;have lo:LoopTr Tryz.prog I 80 (AQ Tryz.prog 79 0) ⟨[(1,.p 0 0),(34,.t (slI 9 ((L).map (Ag c)))),(35,.i (L.length:Int)),(36,.i ((0:Nat):Int))],[(0,some ⟨46,none,[.b (.it (slI 9 ((L).map (Ag c)))),.o false,.i 0]⟩)],50⟩ (.exit 0) ⟨[(1,.p 0 0)],[(0,some ⟨46,none,[.b (.it (slI 9 ((L).map (Ag c)))),.o false,.i 0]⟩)],50⟩:=Bz (by simp) (fun i=>⟨[(1,.p 0 0),(34,.t (slI 9 ((L).map (Ag c)))),(35,.i (L.length:Int)),(36,.i (i:Int))],[(0,some ⟨46,none,[.b (.it (slI 9 ((L).map (Ag c)))),.o false,.i 0]⟩)],50⟩) L.length (fun i hi=>by
  have e0:i=0:=by omega
  have h1 : ¬ (tat L i).st < 0:=by rw[e0,q3];decide
  have h2 : ¬ 2 < (tat L i).st:=by rw[e0,q3];decide
  have e:=Gx (q:=(tat L i).q) (by rw[e0];exact q4)
  exact rr [pk (Al 3 (i:Int) (L.length:Int)),pk (Aj 44 103 9 ((L).map (Ag c)) i (i:Int) ((Ag c) (tat L i)) (AR hi)),pk (Ai 3 ((tat L i).st) 0),pk (Aq 3 ((tat L i).st) 2),po (D1 (I:=I) (c:=c) (p:=(tat L i).q)),pk (As 32 (cie ((tat L i).q)) 0),pk (AA 3 (i:Int) 1 ⟨by omega,by omega⟩)]) (rr [pk (Ai 3 (L.length:Int) (L.length:Int))])
 have lo2:LoopTr Tryz.prog I 80 (AQ Tryz.prog 79 1) ⟨[(1,.p 0 0),(61,.t (slI 9 ((L).map (Ag c)))),(62,.i (L.length:Int)),(63,.i ((0:Nat):Int))],[(0,some ⟨46,none,[.b (.it (slI 9 ((L).map (Ag c)))),.o false,.i 0]⟩)],50⟩ (.exit 2) ⟨[],[],50⟩:=Bz (by simp) (fun i=>⟨[(1,.p 0 0),(61,.t (slI 9 ((L).map (Ag c)))),(62,.i (L.length:Int)),(63,.i (i:Int))],[(0,some ⟨46,none,[.b (.it (slI 9 ((L).map (Ag c)))),.o false,.i 0]⟩)],50⟩) L.length (fun i hi=>by
  have e0:i=0:=by omega
  have h1 : ¬ (tat L i).st=1:=by rw[e0,q3];decide
  have h2 : ¬ (tat L i).st=2:=by rw[e0,q3];decide
  have hset:=MG (I:=I) (c:=c) L false 0 c (tat L i);rw[show DQ false 0 (tat L i).q=false from rfl] at hset;exact rr [pk (Al 3 (i:Int) (L.length:Int)),pk (Aj 44 103 9 ((L).map (Ag c)) i (i:Int) ((Ag c) (tat L i)) (AR hi)),pk (AO 3 ((tat L i).st) 1),pk (Af 3 ((tat L i).st) 2),po (hset),pa,pk (AA 3 (i:Int) 1 ⟨by omega,by omega⟩)]) (rr [pk (Ai 3 (L.length:Int) (L.length:Int))])
 exact sr 80 [pk (AK 44 103 3 9 ((L).map (Ag c)) ((L).length:Int)),pk (Ai 3 ((L).length:Int) 1),pk (AK 44 103 3 9 ((L).map (Ag c)) ((L).length:Int)),pk (Aq 3 ((L).length:Int) 2000),po (hc),pa,pa,pk (AK 44 103 3 9 ((L).map (Ag c)) ((L).length:Int)),pl (lo),po (hs),pa,pk (AK 44 103 3 9 ((L).map (Ag c)) ((L).length:Int)),pl (lo2)]
end
theorem Zs.step {N:Nat→Prop}{w w':World}{A:Option Addr}{n c:Nat}(h:Zs w A n c)(hw:WStep N w w'):Zs w' A n c:=by
 rcases h with h | ⟨b,cs,e,rfl,h1,h2,h3,h4,⟨x,h5⟩,h6⟩
 ·exact .inl h
 ·rcases hw.keep b (Array.getElem?_eq_some_iff.1 h1).1 with e1 | e1
  ·exact .inr ⟨b,cs,e,rfl,e1.trans h1,h2,h3,h4,⟨x,h5⟩,h6⟩
  ·exfalso
   have hq:=e1.2;rw[h1] at hq;have hm:(Value.int .u32 (x:Int))∈cs.toList:=Array.mem_toList_iff.2 (Array.mem_of_getElem? h5);have:=hq _ hm;simp[Ng] at this
def zI (m:Nat):Item where
 n:=1
 T:=fun _ w l => ∃ A n c,l=[.slice A n c]∧Rd .u32 w w.heap.size A n (Ad m)∧n≤c∧c≤9223372036854775807∧Zs w A n c
 step:=fun hw _ ⟨A,n,c,e,h1,h2,h3,h4⟩=>⟨A,n,c,e,Fq hw h1,h2,h3,h4.step hw⟩
 len:=fun ⟨A,n,c,e,_⟩=>by rw[e];rfl
 one:=fun ⟨A,n,c,e,_⟩=>by rw[e];intro v hv;simp at hv;rw[hv];rfl
def xI (xs:List Nat):Item where
 n:=1
 T:=fun _ w l => ∃ A n c,l=[.slice A n c]∧Rd .u32 w w.heap.size A n xs∧n≤c∧c≤9223372036854775807
 step:=fun hw _ ⟨A,n,c,e,h1,h2⟩=>⟨A,n,c,e,Fq hw h1,h2⟩
 len:=fun ⟨A,n,c,e,_⟩=>by rw[e];rfl
 one:=fun ⟨A,n,c,e,_⟩=>by rw[e];intro v hv;simp at hv;rw[hv];rfl
abbrev iz (z:Int):List It:=[.o (decide (z < 0)),.b (.it (zI z.natAbs))]
abbrev ix0 (z:Int):List It:=[.o (decide (z < 0)),.b (.it (xI (Ad z.natAbs++[0])))]
theorem V2 (xs:List Nat):val (xs++[0])=val xs:=by
 induction xs with
 | nil=>rfl
 | cons x r ih=>simp only[List.cons_append,val,ih]
section
variable {I:WInv}{x:List It}{a b n:Int}{k j:Nat}
theorem Rj {N:Nat→Prop}{w w':World}{z:Int}{e:Ending}(h:RetIntZ w z e w') : ∃ v,e = .returned v∧(TV.cv (.ag (iz z))).sem (Nx N w w') w' G0 v∧Below w.heap.size w w':=by
 obtain ⟨s,A,n,c,e1,h1,h2,h3⟩:=h;refine ⟨_,e1,⟨[.bool s,.slice A n c],rfl,[.bool s],[.slice A n c],rfl,?_,[.slice A n c],[],rfl,⟨A,n,c,rfl,h1.1,h1.2.2.1,h1.2.2.2,h2⟩,rfl⟩,h3⟩;show [Value.bool s]=[Value.bool (decide (z < 0))];rw[h1.2.1]
theorem Te (hx:Num x a):Sp Tryz.prog I 150 [.ag x] (.cv (.ag (iz a))):=by
 intro N w vs _ _ hv;obtain ⟨l,rfl,h1⟩:=LK hv;obtain ⟨s,A,n,c,rfl,h2,h3⟩:=hx N w l h1;exact (TU w h2 (by omega)).mono fun e w' he=>Rj he
theorem AdH {N:Nat→Prop}{w:World}{z:Int}{l:List Value}(h:Bl N w G0 (iz z) l) : ∃ A n c,l=[.bool (decide (z < 0)),.slice A n c]∧CInt w (decide (z < 0)) A n c z:=by
 obtain ⟨l1,l2,e,h1,l3,l4,e2,⟨A,n,c,e3,h2,h3,h4,h5⟩,h6⟩:=h;have h1:l1=[_]:=h1;have h6:l4=[]:=h6;exact ⟨A,n,c,by rw[e,h1,e2,e3,h6];rfl,h2,rfl,h3,h4⟩
theorem Abv {N:Nat→Prop}{w:World}{g:Gh}{l:List Value}(h:Bl N w g KY l):Bl N w g (iz 0) l:=by
 obtain ⟨l1,l2,e,h1,l3,l4,e2,h2,h3⟩:=h;have h2:l3=[_]:=h2;exact ⟨l1,l2,e,h1,l3,l4,e2,⟨none,0,0,h2,by rw[show Int.natAbs 0=0 from rfl,AX];exact Rd.nil,by omega,by omega,Zs.nil w⟩,h3⟩
theorem AcT:CTle (.ag (KY++ic 1)) (.ag (iz 0++ic 1)):=by
 rintro N w g v ⟨vs,e,hl⟩;obtain ⟨l1,l2,e1,h1,h2⟩:=DR hl;exact ⟨vs,e,e1▸C4 (Abv h1) h2⟩
theorem Ad6 {q1 q2:IntP}(h1:Num (ip q1) n)(h2:Num (ip q2) 1)(hk1:Lim 1048576 n):Sp Tryz.prog I 108 [.ag (ip q1),.ag (ip q2)] (.cv (.ag (iz n++ic 1))):=by
 have hd:(0:Int) < 1:=by omega
 have hk2:Lim 1048576 1:=(show Lim 1 1 by unfold Lim;decide).mono (by omega)
 by_cases hn:n=0
 ·subst hn
  refine Sp.rs (res := .cv (.ag (KY++ic 1))) ?_ AcT.tv;exact sr 53 [po (Ez 1 (by omega) (by omega)),po (BX 1 h2 rfl),po (BX 0 h1 rfl)]
 ·obtain ⟨sn,hsn,hs2⟩ : ∃ s,n.sign=s∧(s=1∨s = -1):=by
   rcases Int.lt_or_gt_of_ne hn with h | h
   ·exact ⟨_,Int.sign_eq_neg_one_of_neg h,.inr rfl⟩
   ·exact ⟨_,Int.sign_eq_one_of_pos h,.inl rfl⟩
  have e:((Nat.gcd n.natAbs (1:Int).natAbs:Nat):Int)=1:=by rw[show (1:Int).natAbs=1 from rfl,Nat.gcd_one_right];rfl
  have g:=PP (I:=I) h1 h2;rw[e] at g;have mg:Num (ic 1) 1:=Bf hk2 (Nat.le_refl _);have d1:=Gf (I:=I) h1 mg hk1 hk2 (by omega)
  have d2:=Gf (I:=I) h2 mg hk2 hk2 (by omega)
  rw[show n.fdiv 1=n by simp] at d1
  rw[show (1:Int).fdiv 1=1 from rfl] at d2;have c1:=Te (I:=I) (Bf hk1 (Nat.le_refl _));have c2:=DU (I:=I) (Bf hk2 (Nat.le_refl _));rcases hs2 with rfl | rfl <;> exact sr 53 [po (Ez 1 (by omega) (by omega)),po (BX 1 h2 rfl),po (BX _ h1 hsn),po (BX 1 h2 rfl),po g,po d1,po d2,po c1,po c2]
theorem YD (a:Int):Rat.divInt a 1=(a:Rat):=by rw[Rat.divInt_eq_div,Rat.intCast_one,Rat.div_def];grind
theorem Vj (hk:k≤1048576)(hj:j≤1048576)(h1:Lim 1048576 a):Sp Tryz.prog I 56 [.ag (ik k a++ik j 1)] (.cv (.ag (ic a++ic 1))):=by
 have r:=Hw (I:=I) (Cb (k:=k) (z:=a) hk) (Cb (k:=j) (z:=1) hj) h1 ((show Lim 1 1 by unfold Lim;decide).mono (by omega))
 rw[YD] at r;unfold tfr frc at r;rw[Rat.num_intCast,Rat.den_intCast] at r;exact sr 8 [po r]
theorem Abr (hk:k≤1048576)(hj:j≤1048576)(h1:Lim 100 a)(h2:Lim 100 b):Sp Tryz.prog I 125 [.ag (ik k a++ik 2 1),.ag (ik j b++ik 2 1)] (.cv (.ag (iz (a*b)++ic 1))):=by
 have c1:=Vj (I:=I) (a:=a) hk (show 2≤1048576 by omega) (h1.mono (by omega))
 have c2:=Vj (I:=I) (a:=b) hj (show 2≤1048576 by omega) (h2.mono (by omega))
 have l1:Lim 1 1:=by unfold Lim;decide
 have m1:=Yw (I:=I) (Bf h1 (by omega)) (Bf h2 (by omega))
 have m2:=Yw (I:=I) (Bf l1 (by omega)) (Bf l1 (by omega))
 rw[show (1:Int)*1=1 from rfl] at m2;have l2:=h1.mul h2;have n1:=Ad6 (I:=I) (Bf l2 (by omega)) (Bf l1 (by omega)) (l2.mono (by omega))
 exact sr 20 [po c1,po c2,po m1,po m2,po n1]
theorem CW (a:Int)(ha:R64 a):Sp Tryz.prog I 69 [ci a] (.cv (.ag (ik 2 a++ik 2 1))):=by
 have h:=(GW (I:=I) a ha).rs (Cx (k:=2) (q:=(a:Rat))).tv;rw[Rat.num_intCast,Rat.den_intCast] at h;exact h
theorem Cd (hk:k≤1048576)(h1:Lim 100 a)(h2:Lim 100 b):Sp Tryz.prog I 82 [.ag (ik k a),.ag (ik 2 b)] (.cv (.ag (iz (a*b)))):=by
 have o:=CW (I:=I) 1 ⟨by omega,by omega⟩
 exact sr 15 [po o,po o,po (Abr (k:=k) (j:=2) hk (by omega) h1 h2)]
end
abbrev z1:List (List It0):=[[.lit (.int .u32 0)]]
theorem LI:Bh Tryz.prog (.bs 22 1 [0]) [BA (.int .u32 0)] (tit (slI 1 z1)):=by
 intro N w g vs hv;obtain ⟨v1,r1,rfl,h1,h2⟩:=hv;have h2:r1=[]:=h2;have h1:[v1]=[Value.int .u32 0]:=h1;injection h1 with h1;subst h1 h2;obtain ⟨i,hi,hz,hsize,hby⟩:=info_parts Tryz.elemU32;have hrun:=GF (P:=Tryz.prog) (w:=w) (t:=22) (e:=97) (len:=1) (ps := #[(0,.int .u32 0)]) (i:=i) (zv := .int .u32 0) (cs := #[.int .u32 0]) Tryz.underlying22 hi hz (by rw[hsize];rfl) (by rw[hsize];decide) (by rw[hsize];kernel_rfl)
 have hb:Below w.heap.size w (w.alloc (.cells #[Value.int .u32 0] 97)):=(Below.refl _ _).alloc (Nat.le_refl _) _;refine ⟨_,_,hrun,hb,⟨some ⟨w.heap.size,0,none⟩,1,rfl,Nat.le_refl _,by simp only[maxLen];omega,fun _=>⟨w.heap.size,0,rfl,fun j r hj => ?_⟩⟩⟩
 cases j with
 | zero =>
  simp at hj;subst hj;exact ⟨#[.int .u32 0],97,(0,0),[.int .u32 0],.inr ⟨Nat.le_refl _,by simp⟩,NS _ _,by simp,[_],[],rfl,rfl,rfl⟩
 | succ j=>simp at hj
theorem Yt {N:Nat→Prop}{w:World}{b off:Nat}{u:Value}(h:RowAt N w b off [.lit u]):w.cell? ⟨b,off,none⟩=some u:=by
 obtain ⟨cs,T,fr,vs,_,h1,h2,l1,l2,e,h3,h4⟩:=h;have h3:l1=[_]:=h3;have h4:l2=[]:=h4;subst h3 h4;simp at e;subst e;rw[cell_of_row w b off cs T fr h1];have h5:(cs.toList.drop off)[0]? = some u:=by
  have:=congrArg (fun l=>l[0]?) h2
  simpa [List.getElem?_take] using this
 rw[List.getElem?_drop,Nat.add_zero] at h5
 simpa using h5
theorem LL (m:Nat)(hm:(Ad m).length≤1000):Bh Tryz.prog (.app #[22,22] 22) [tit (zI m),tit (slI 1 z1)] (tit (xI (Ad m++[0]))):=by
 intro N w g vs hv;obtain ⟨v1,r1,rfl,h1,v2,r2,rfl,h2,h3⟩:=hv;have h3:r2=[]:=h3;subst h3;obtain ⟨A,n,c,e1,q1,q2,q3,q4⟩:=h1;obtain ⟨A2,c2,e2,q5,q6,q7⟩:=h2;injection e1 with e1;injection e2 with e2;subst e1 e2;obtain ⟨b,off,rfl,hrow⟩:=q7 (by simp)
 have hc:=Yt (hrow 0 _ rfl);rw[Nat.zero_mul,Nat.add_zero] at hc;have hn:=q1.len;obtain ⟨A3,c3,w',k1,k2,k3,k4,k5⟩:=LP (P:=Tryz.prog) (ty:=22) Tryz.elemU32 Tryz.underlying22 w q1 q4 (by omega) q3 (c1:=c2) hc
 exact ⟨_,_,k1,k5,⟨A3,n+1,c3,rfl,k2,k3,k4⟩⟩
section
variable {I:WInv}{a b:Int}
theorem Qu {z:Int}{k:Nat}(h:Lim k z):(Ad z.natAbs).length≤k:=B9 h
theorem AcC {N:Nat→Prop}{w:World}{l:List Value}(h:Lim 11 a)(hl:Bl N w G0 (ix0 a) l):(IP (aP 12 a)).T N w l:=by
 obtain ⟨l1,l2,e,h1,l3,l4,e2,⟨A,n,c,e3,h2,h3,h4⟩,h6⟩:=hl;have h1:l1=[_]:=h1;have h6:l4=[]:=h6;have hn:=h2.len;have hd:=Qu h;rw[List.length_append] at hn;refine ⟨decide (a < 0),A,n,c,by rw[e,h1,e2,e3,h6];rfl,⟨_,h2,?_,h3,h4,?_⟩,by simp at hn;omega⟩
 ·intro x hx
  rcases List.mem_append.1 hx with hx | hx
  ·exact Ak _ x hx
  ·simp at hx;omega
 ·rw[V2,An]
  unfold sgn;by_cases hz:a < 0
  ·simp[hz];omega
  ·simp[hz];omega
theorem AeG {N:Nat→Prop}{w:World}{l:List Value}(h:Lim 11 a)(hl:Bl N w G0 (iz a) l):(IP (aP 12 a)).T N w l:=by
 obtain ⟨A,n,c,e,hc⟩:=AdH hl;exact ⟨_,A,n,c,e,hc.any,Nat.le_trans (hc.len h) (by omega)⟩
theorem AdG (h1:Lim 11 a)(h2:Lim 11 b):CTle (.ag (iz a++iz b)) (fc false 12 (Rat.divInt a b)):=by
 rintro N w g v ⟨vs,e,hl⟩;obtain ⟨l1,l2,e1,k1,k2⟩:=DR hl;exact ⟨vs,e,BT ⟨a,b,l1,l2,e1,AeG h1 k1,AeG h2 k2,rfl,by omega,fun h=>by cases h⟩⟩
theorem AdI (h1:Lim 11 a)(h2:Lim 11 b):CTle (.ag (ix0 a++ix0 b)) (fc false 12 (Rat.divInt a b)):=by
 rintro N w g v ⟨vs,e,hl⟩;obtain ⟨l1,l2,e1,k1,k2⟩:=DR hl;exact ⟨vs,e,BT ⟨a,b,l1,l2,e1,AcC h1 k1,AcC h2 k2,rfl,by omega,fun h=>by cases h⟩⟩
def kap (n:Int):Int:=if B7 (Bt n 6) 3=0 then 1 else if B7 (Bt n 6) 3=1 then -1 else if B7 (Bt n 6) 3=2 then 2 else 0
def Ow (n:Int):Rat:=Rat.divInt ((BM n).num*kap n) (((BM n).den:Int)*kap n)
theorem WM (n:Int):Lim 1 (BM n).num∧Lim 1 ((BM n).den:Int):=by
 have h1:=Dv n 15 (by omega) (by omega)
 have h2:=Dv (Bt n 4) 3 (by omega) (by omega)
 unfold BM;exact ⟨Eg (WD (by omega) (by omega)),E0 (WD (by omega) (by omega)) (by omega)⟩
theorem Ep (n:Int):Sp Tryz.prog I 27 [ci n] (.cv (.ag (ik 12 (BM n).num++ik 12 ((BM n).den:Int)))):=(UP n).rs (Cx (k:=12) (q:=BM n)).tv
theorem Aa2 (n:Int):Sp Tryz.prog I 32 [ci n] (tfc false 12 (Ow n)):=by
 have hb:=Dv (Bt n 6) 3 (by omega) (by omega)
 obtain ⟨f1,f2⟩:=WM n;have l1:=f1.mono (show 1≤100 by omega)
 have l2:=f2.mono (show 1≤100 by omega)
 have hk:Lim 1 (kap n):=WD (by unfold kap;split <;> (try omega) <;> split <;> (try omega) <;> split <;> omega) (by unfold kap;split <;> (try omega) <;> split <;> (try omega) <;> split <;> omega)
 have m1:Lim 11 ((BM n).num*kap n):=(f1.mul hk).mono (by omega)
 have m2:Lim 11 (((BM n).den:Int)*kap n):=(f2.mul hk).mono (by omega)
 have d1:(Ad ((BM n).num*kap n).natAbs).length≤1000:=Nat.le_trans (Qu m1) (by omega)
 have d2:(Ad (((BM n).den:Int)*kap n).natAbs).length≤1000:=Nat.le_trans (Qu m2) (by omega)
 unfold Ow;by_cases h8:B7 (Bt n 8) 3=3
 ·refine Sp.rs (res := .cv (.ag (ix0 ((BM n).num*kap n)++ix0 (((BM n).den:Int)*kap n)))) ?_ (AdI m1 m2).tv
  rcases (show B7 (Bt n 6) 3=0∨B7 (Bt n 6) 3=1∨B7 (Bt n 6) 3=2∨B7 (Bt n 6) 3=3 by omega) with h6 | h6 | h6 | h6
  ·have hK:kap n=1:=by unfold kap;rw[h6];rfl
   rw[hK] at d1 d2 ⊢;exact sr 53 [po (Ep n),pk (Ce 3 n 6),pk (h6▸BZ 3 (Bt n 6) 3),⟨.ix 0 0 4,⟨rfl,by omega⟩⟩,po (CW (I:=I) 1 ⟨by omega,by omega⟩),pk (Ce 3 n 6),pk (h6▸BZ 3 (Bt n 6) 3),⟨.ix 0 0 4,⟨rfl,by omega⟩⟩,po (CW (I:=I) 1 ⟨by omega,by omega⟩),po (Cd (I:=I) (k:=12) (a:=(BM n).num) (b:=1) (by omega) (l1) (by unfold Lim;decide)),po (Cd (I:=I) (k:=12) (a:=((BM n).den:Int)) (b:=1) (by omega) (l2) (by unfold Lim;decide)),pk (Ce 3 n 8),pk (BZ 3 (Bt n 8) 3),pk (Am 3 (B7 (Bt n 8) 3) 3),pk (LI),pk (LL _ (d1)),pk (LI),pk (LL _ (d2))]
  ·have hK:kap n = -1:=by unfold kap;rw[h6];rfl
   rw[hK] at d1 d2 ⊢;exact sr 53 [po (Ep n),pk (Ce 3 n 6),pk (h6▸BZ 3 (Bt n 6) 3),⟨.ix 1 1 4,⟨rfl,by omega⟩⟩,po (CW (I:=I) (-1) ⟨by omega,by omega⟩),pk (Ce 3 n 6),pk (h6▸BZ 3 (Bt n 6) 3),⟨.ix 1 1 4,⟨rfl,by omega⟩⟩,po (CW (I:=I) (-1) ⟨by omega,by omega⟩),po (Cd (I:=I) (k:=12) (a:=(BM n).num) (b:=(-1)) (by omega) (l1) (by unfold Lim;decide)),po (Cd (I:=I) (k:=12) (a:=((BM n).den:Int)) (b:=(-1)) (by omega) (l2) (by unfold Lim;decide)),pk (Ce 3 n 8),pk (BZ 3 (Bt n 8) 3),pk (Am 3 (B7 (Bt n 8) 3) 3),pk (LI),pk (LL _ (d1)),pk (LI),pk (LL _ (d2))]
  ·have hK:kap n=2:=by unfold kap;rw[h6];rfl
   rw[hK] at d1 d2 ⊢;exact sr 53 [po (Ep n),pk (Ce 3 n 6),pk (h6▸BZ 3 (Bt n 6) 3),⟨.ix 2 2 4,⟨rfl,by omega⟩⟩,po (CW (I:=I) 2 ⟨by omega,by omega⟩),pk (Ce 3 n 6),pk (h6▸BZ 3 (Bt n 6) 3),⟨.ix 2 2 4,⟨rfl,by omega⟩⟩,po (CW (I:=I) 2 ⟨by omega,by omega⟩),po (Cd (I:=I) (k:=12) (a:=(BM n).num) (b:=2) (by omega) (l1) (by unfold Lim;decide)),po (Cd (I:=I) (k:=12) (a:=((BM n).den:Int)) (b:=2) (by omega) (l2) (by unfold Lim;decide)),pk (Ce 3 n 8),pk (BZ 3 (Bt n 8) 3),pk (Am 3 (B7 (Bt n 8) 3) 3),pk (LI),pk (LL _ (d1)),pk (LI),pk (LL _ (d2))]
  ·have hK:kap n=0:=by unfold kap;rw[h6];rfl
   rw[hK] at d1 d2 ⊢;exact sr 53 [po (Ep n),pk (Ce 3 n 6),pk (h6▸BZ 3 (Bt n 6) 3),⟨.ix 3 3 4,⟨rfl,by omega⟩⟩,po (CW (I:=I) 0 ⟨by omega,by omega⟩),pk (Ce 3 n 6),pk (h6▸BZ 3 (Bt n 6) 3),⟨.ix 3 3 4,⟨rfl,by omega⟩⟩,po (CW (I:=I) 0 ⟨by omega,by omega⟩),po (Cd (I:=I) (k:=12) (a:=(BM n).num) (b:=0) (by omega) (l1) (by unfold Lim;decide)),po (Cd (I:=I) (k:=12) (a:=((BM n).den:Int)) (b:=0) (by omega) (l2) (by unfold Lim;decide)),pk (Ce 3 n 8),pk (BZ 3 (Bt n 8) 3),pk (Am 3 (B7 (Bt n 8) 3) 3),pk (LI),pk (LL _ (d1)),pk (LI),pk (LL _ (d2))]
 ·refine Sp.rs (res := .cv (.ag (iz ((BM n).num*kap n)++iz (((BM n).den:Int)*kap n)))) ?_ (AdG m1 m2).tv
  rcases (show B7 (Bt n 6) 3=0∨B7 (Bt n 6) 3=1∨B7 (Bt n 6) 3=2∨B7 (Bt n 6) 3=3 by omega) with h6 | h6 | h6 | h6
  ·have hK:kap n=1:=by unfold kap;rw[h6];rfl
   rw[hK] at d1 d2 ⊢;exact sr 53 [po (Ep n),pk (Ce 3 n 6),pk (h6▸BZ 3 (Bt n 6) 3),⟨.ix 0 0 4,⟨rfl,by omega⟩⟩,po (CW (I:=I) 1 ⟨by omega,by omega⟩),pk (Ce 3 n 6),pk (h6▸BZ 3 (Bt n 6) 3),⟨.ix 0 0 4,⟨rfl,by omega⟩⟩,po (CW (I:=I) 1 ⟨by omega,by omega⟩),po (Cd (I:=I) (k:=12) (a:=(BM n).num) (b:=1) (by omega) (l1) (by unfold Lim;decide)),po (Cd (I:=I) (k:=12) (a:=((BM n).den:Int)) (b:=1) (by omega) (l2) (by unfold Lim;decide)),pk (Ce 3 n 8),pk (BZ 3 (Bt n 8) 3),pk (Af 3 (B7 (Bt n 8) 3) 3)]
  ·have hK:kap n = -1:=by unfold kap;rw[h6];rfl
   rw[hK] at d1 d2 ⊢;exact sr 53 [po (Ep n),pk (Ce 3 n 6),pk (h6▸BZ 3 (Bt n 6) 3),⟨.ix 1 1 4,⟨rfl,by omega⟩⟩,po (CW (I:=I) (-1) ⟨by omega,by omega⟩),pk (Ce 3 n 6),pk (h6▸BZ 3 (Bt n 6) 3),⟨.ix 1 1 4,⟨rfl,by omega⟩⟩,po (CW (I:=I) (-1) ⟨by omega,by omega⟩),po (Cd (I:=I) (k:=12) (a:=(BM n).num) (b:=(-1)) (by omega) (l1) (by unfold Lim;decide)),po (Cd (I:=I) (k:=12) (a:=((BM n).den:Int)) (b:=(-1)) (by omega) (l2) (by unfold Lim;decide)),pk (Ce 3 n 8),pk (BZ 3 (Bt n 8) 3),pk (Af 3 (B7 (Bt n 8) 3) 3)]
  ·have hK:kap n=2:=by unfold kap;rw[h6];rfl
   rw[hK] at d1 d2 ⊢;exact sr 53 [po (Ep n),pk (Ce 3 n 6),pk (h6▸BZ 3 (Bt n 6) 3),⟨.ix 2 2 4,⟨rfl,by omega⟩⟩,po (CW (I:=I) 2 ⟨by omega,by omega⟩),pk (Ce 3 n 6),pk (h6▸BZ 3 (Bt n 6) 3),⟨.ix 2 2 4,⟨rfl,by omega⟩⟩,po (CW (I:=I) 2 ⟨by omega,by omega⟩),po (Cd (I:=I) (k:=12) (a:=(BM n).num) (b:=2) (by omega) (l1) (by unfold Lim;decide)),po (Cd (I:=I) (k:=12) (a:=((BM n).den:Int)) (b:=2) (by omega) (l2) (by unfold Lim;decide)),pk (Ce 3 n 8),pk (BZ 3 (Bt n 8) 3),pk (Af 3 (B7 (Bt n 8) 3) 3)]
  ·have hK:kap n=0:=by unfold kap;rw[h6];rfl
   rw[hK] at d1 d2 ⊢;exact sr 53 [po (Ep n),pk (Ce 3 n 6),pk (h6▸BZ 3 (Bt n 6) 3),⟨.ix 3 3 4,⟨rfl,by omega⟩⟩,po (CW (I:=I) 0 ⟨by omega,by omega⟩),pk (Ce 3 n 6),pk (h6▸BZ 3 (Bt n 6) 3),⟨.ix 3 3 4,⟨rfl,by omega⟩⟩,po (CW (I:=I) 0 ⟨by omega,by omega⟩),po (Cd (I:=I) (k:=12) (a:=(BM n).num) (b:=0) (by omega) (l1) (by unfold Lim;decide)),po (Cd (I:=I) (k:=12) (a:=((BM n).den:Int)) (b:=0) (by omega) (l2) (by unfold Lim;decide)),pk (Ce 3 n 8),pk (BZ 3 (Bt n 8) 3),pk (Af 3 (B7 (Bt n 8) 3) 3)]
end
end Go.Proofs.YtdgbealknnmkoaaGreatDoor
