/- Texts of one proof, put together by a program: each lemma is proved for all values of its variables, under the premises that it states. -/
import Derived.Test.YtdgbealknnmkoaaGreatDoorPfb589fdf
import Derived.Test.YtdgbealknnmkoaaGreatDoorP75540eb9
import Derived.Test.YtdgbealknnmkoaaGreatDoorP81e72f72
import Derived.Test.YtdgbealknnmkoaaGreatDoorP0aad4eef
set_option linter.unusedVariables false
set_option linter.unusedSimpArgs false
namespace Go.Proofs.YtdgbealknnmkoaaGreatDoor
open Go Go.RowKit
def Dd (z:Int):List Nat:=D5 (decide (z < 0)) z.natAbs
theorem VH {N:Nat→Prop}{w w':World}{z code:Int}{e:Ending}(h:DK w z code e w') : ∃ v,e = .returned v∧(TV.tu [.ag (ic z),ci code]).sem (Nx N w w') w' G0 v∧Below w.heap.size w w':=by
 obtain ⟨s,A,n,c,e1,h1,h2⟩:=h;exact ⟨_,e1,⟨_,rfl,_,_,rfl,⟨[.bool s,.slice A n c],rfl,Cb ⟨s,A,n,c,rfl,h1⟩⟩,_,_,rfl,rfl,rfl⟩,h2⟩
theorem LA (w:World)(n:Nat):Below w.heap.size w (w.drewN n):=⟨rfl,rfl,rfl,Nat.le_refl _,fun _ _=>rfl⟩
section
variable {I:WInv}{x:List It}{z code:Int}
theorem AbF (hx:Num x z):Sp Tryz.prog DG 91 [.ag x] (tS (Dd z)):=AcH hx
theorem XG (hx:Num x z):Sp Tryz.prog I 96 [.ag x] (tS (Dd z)):=by
 intro N w vs hI _ hv;obtain ⟨l,rfl,h1⟩:=NN hv;obtain ⟨s,A,n,c,rfl,h2,h3⟩:=hx N w l h1;have e:AR (Dd z)=AR (D5 s z.natAbs):=(UD h2.sign_eq).symm;unfold tS;rw[e];exact (NW w h2 (by omega)).mono fun e w' he=>GB he
theorem CE {xs:List Nat}(hx:B8 xs)(hp:PA xs z code)(hl:xs.length≤9223372036854775807):Sp Tryz.prog I 101 [cS xs] (.tu [.ag (ic z),ci code]):=by
 intro N w vs _ _ hv;rw[K8 hv];exact (VV (AR xs) w (by rw[hx.bo];exact hp) (by rw[BM];exact hl)).mono fun e w' he=>VH he
theorem Ad2 (n:Nat)(hn:n≤1000):Sp Tryz.prog I 144 [cS [48],ci (n:Int)] (tS (List.replicate n 48)):=by
 intro N w vs _ _ hv;obtain ⟨v,r,rfl,h1,v2,r2,rfl,h3,h4⟩:=hv;have h1:[v]=[.string (AR [48])]:=h1;have h3:[v2]=[.int .i64 (n:Int)]:=h3;injection h1 with h1;injection h3 with h3;obtain rfl:r2=[]:=h4;subst h1 h3;refine (Tryz.strings_Repeat (AR [48]) n w (by omega) (by rw[BM];simp;omega)).mono ?_
 rintro e w' ⟨rfl,hb⟩;have e1 : ∀ n,Lib.repeatL (AR [48]).data.toList n=(List.replicate n 48).map UInt8.ofNat:=by
  intro n;rw[CD];induction n with
  | zero=>rfl
  | succ n ih=>rw[Lib.repeatL,ih,List.replicate_succ,List.map_cons];rfl
 rw[e1];exact ⟨_,rfl,(rfl:[_]=[_]),hb⟩
theorem Ro (xs:List Nat)(hx:B8 xs):Lib.hasPrefix (xs.map UInt8.ofNat) [UInt8.ofNat 45]=BV xs:=by
 unfold Lib.hasPrefix BV;cases xs with
 | nil=>rfl
 | cons a l =>
  have ha:=hx a (by simp)
  simp only[List.map_cons,List.isPrefixOf,List.getD_cons_zero,Bool.and_true];by_cases h:a=45
  ·subst h;rfl
  ·have h1:(UInt8.ofNat 45 == UInt8.ofNat a)=false:=by
    rw[beq_eq_false_iff_ne];exact fun h'=>h ((SZ (by omega) ha).1 h').symm
   rw[h1];have h2:(a == 45)=false:=by rw[beq_eq_false_iff_ne];exact h
   rw[h2]
theorem Yz {xs:List Nat}(hx:B8 xs):Sp Tryz.prog I 141 [cS xs,cS [45]] (lb (BV xs)):=by
 intro N w vs _ _ hv;obtain ⟨v,r,rfl,h1,v2,r2,rfl,h3,h4⟩:=hv;have h1:[v]=[.string (AR xs)]:=h1;have h3:[v2]=[.string (AR [45])]:=h3;injection h1 with h1;injection h3 with h3;obtain rfl:r2=[]:=h4;subst h1 h3;refine (Tryz.strings_HasPrefix (AR xs) (AR [45]) w).mono ?_;rintro e w' ⟨rfl,rfl⟩;rw[CD,CD,show [45].map UInt8.ofNat=[UInt8.ofNat 45] from rfl,Ro xs hx];exact ⟨_,rfl,(rfl:[_]=[_]),Below.refl _ _⟩
theorem Es {xs:List Nat}(hx:B8 xs):Sp Tryz.prog I 142 [cS xs,cS [45]] (tS (Be xs)):=by
 intro N w vs _ _ hv;obtain ⟨v,r,rfl,h1,v2,r2,rfl,h3,h4⟩:=hv;have h1:[v]=[.string (AR xs)]:=h1;have h3:[v2]=[.string (AR [45])]:=h3;injection h1 with h1;injection h3 with h3;obtain rfl:r2=[]:=h4;subst h1 h3;refine (Tryz.strings_TrimPrefix (AR xs) (AR [45]) w).mono ?_;rintro e w' ⟨rfl,rfl⟩;refine ⟨_,rfl,?_,Below.refl _ _⟩;have e1:Lib.trimPrefix (AR xs).data.toList (AR [45]).data.toList=(Be xs).map UInt8.ofNat:=by
  rw[CD,CD,show [45].map UInt8.ofNat=[UInt8.ofNat 45] from rfl];unfold Lib.trimPrefix Be;rw[Ro xs hx];split
  ·rw[List.map_drop];rfl
  ·rfl
 rw[e1];exact (rfl:[_]=[_])
theorem LT {xs : List Nat} (hx : B8 xs) : Sp Tryz.prog I 143 [cS xs, cS [48]] (tS (xs.dropWhile (· == 48))) := by
 intro N w vs _ _ hv;obtain ⟨v,r,rfl,h1,v2,r2,rfl,h3,h4⟩:=hv;have h1:[v]=[.string (AR xs)]:=h1;have h3:[v2]=[.string (AR [48])]:=h3;injection h1 with h1;injection h3 with h3;obtain rfl:r2=[]:=h4;subst h1 h3;refine (Tryz.strings_TrimLeft_one (AR xs) (UInt8.ofNat 48) (by decide) w).mono ?_
 rintro e w' ⟨rfl,rfl⟩;refine ⟨_,rfl,?_,Below.refl _ _⟩;have e1 : ∀ xs:List Nat,B8 xs→Lib.trimLeftB (xs.map UInt8.ofNat) (UInt8.ofNat 48)=(xs.dropWhile (· == 48)).map UInt8.ofNat:=by
  intro xs;unfold Lib.trimLeftB;induction xs with
  | nil=>intro _;rfl
  | cons a l ih =>
   intro hx;have ha:=hx a (by simp)
   rw[List.map_cons,List.dropWhile_cons,List.dropWhile_cons];by_cases h:a=48
   ·subst h
    simp only[beq_self_eq_true,if_true];exact ih fun y hy=>hx y (by simp[hy])
   ·have h1:(UInt8.ofNat a == UInt8.ofNat 48)=false:=by
     rw[beq_eq_false_iff_ne];exact fun h'=>h ((SZ ha (by omega)).1 h')
    have h2:(a == 48)=false:=by rw[beq_eq_false_iff_ne];exact h
    rw[h1,h2];simp
 rw[CD,e1 xs hx];exact (rfl:[_]=[_])
end
abbrev Ah (x:Nat):List It0:=[.lit (.int .u8 (x:Int))]
theorem M3 {D:List Nat}{i:Nat}(h:i < D.length):(D.map Ah)[i]? = some (Ah (D.getD i 0)):=by
 rw[List.getElem?_map,List.getD_eq_getElem?_getD,List.getElem?_eq_getElem h];rfl
theorem Bp {D:List Nat} : ∀ r∈D.map Ah,Ce r=1:=by intro r hr;obtain ⟨x,_,rfl⟩:=List.mem_map.1 hr;rfl
section
variable {P:Program}{I:WInv}
theorem AaV (s d e:TypeId)(xs:List Nat)(hs:P.underlying s=some (.slice e):=by kernel_rfl)(he:P.underlying e=some (.int .u8):=by kernel_rfl)(hd:P.underlying d=some .string:=by kernel_rfl):Bx P (.conv s d) [tit (slI 1 (xs.map Ah))] (tS xs):=by
 intro N w g vs hv;obtain ⟨v,rfl,A,c,e1,h1,h2,h⟩:=ED hv;injection e1 with e1;subst e1;have hr:Rd .u8 w w.heap.size A xs.length xs:=by
  refine ⟨rfl,fun h0 => ?_⟩
  obtain ⟨b,off,hA,hrow⟩:=h (by intro h3;rw[List.map_eq_nil_iff] at h3;rw[h3] at h0;simp at h0)
  have hb:b < w.heap.size:=by
   obtain ⟨cs,T,fr,vs,_,q,_⟩:=hrow 0 _ (M3 h0);exact (Array.getElem?_eq_some_iff.1 q).1
  refine ⟨b,off,hA,hb,fun j x hj => ?_⟩
  have hjl:=(List.getElem?_eq_some_iff.1 hj).1;obtain ⟨cs,T,fr,vs,_,q1,q2,q3⟩:=hrow j _ (M3 hjl);have hx:xs.getD j 0=x:=by rw[List.getD_eq_getElem?_getD,hj];rfl
  rw[hx] at q3;obtain ⟨l1,l2,rfl,q4,q5⟩:=q3;have q4:l1=[.int .u8 (x:Int)]:=q4;have q5:l2=[]:=q5;subst q4 q5;simp only[World.cell?,q1];simp only[List.cons_append,List.nil_append,List.length_cons,List.length_nil,Nat.zero_add,Nat.mul_one] at q2;have:=congrArg (fun l=>l[0]?) q2
  simp only[List.getElem?_take,List.getElem?_drop] at this
  simpa using this
 rw[List.length_map] at *;exact ⟨_,w,Jc hs he hd hr,Below.refl _ _,(rfl:[_]=[_])⟩
end
theorem AZ (D:List Nat):((D.map Ah).flatten.map It.b).all It.okB=true:=by
 rw[List.all_eq_true];intro x hx;obtain ⟨y,hy,rfl⟩:=List.mem_map.1 hx;obtain ⟨r,hr,hy⟩:=List.mem_flatten.1 hy;obtain ⟨d,_,rfl⟩:=List.mem_map.1 hr;simp at hy;subst hy
 rfl
abbrev bI (xs:List Nat):Item:=slI 1 (xs.map Ah)
theorem OZ {N:Nat→Prop}{w:World}{xs:List Nat}{l:List Value}(h:(bI xs).T N w l) : ∃ A c,l=[.slice A xs.length c]∧Rd .u8 w w.heap.size A xs.length xs∧xs.length≤c∧c≤9223372036854775807:=by
 obtain ⟨A,c,e,h1,h2,h3⟩:=h;rw[List.length_map] at e h1;refine ⟨A,c,e,⟨rfl,fun h0 => ?_⟩,h1,Nat.le_trans h2 (by simp[maxLen])⟩
 obtain ⟨b,off,hA,hrow⟩:=h3 (by intro h;rw[List.map_eq_nil_iff] at h;rw[h] at h0;simp at h0)
 have hb:b < w.heap.size:=by
  obtain ⟨cs,T,fr,vs,_,q,_⟩:=hrow 0 _ (M3 h0);exact (Array.getElem?_eq_some_iff.1 q).1
 refine ⟨b,off,hA,hb,fun j x hj => ?_⟩
 have hjl:=(List.getElem?_eq_some_iff.1 hj).1;obtain ⟨cs,T,fr,vs,_,q1,q2,q3⟩:=hrow j _ (M3 hjl);have hx:xs.getD j 0=x:=by rw[List.getD_eq_getElem?_getD,hj];rfl
 rw[hx] at q3;obtain ⟨l1,l2,rfl,q4,q5⟩:=q3;have q4:l1=[.int .u8 (x:Int)]:=q4;have q5:l2=[]:=q5;subst q4 q5;simp only[World.cell?,q1];simp only[List.cons_append,List.nil_append,List.length_cons,List.length_nil,Nat.zero_add,Nat.mul_one] at q2;have:=congrArg (fun l=>l[0]?) q2
 simp only[List.getElem?_take,List.getElem?_drop] at this
 simpa using this
theorem SX {N:Nat→Prop}{e:TypeId}{w0 w:World}{v:Value}{xs:List Nat}(h:Own .u8 e w0 w v xs):(bI xs).T (Nx N w0 w) w [v]:=by
 rcases h.1.2 with ⟨rfl,hn⟩ | ⟨g,cap,cur,rfl,hg,hh,hnc,hcm,hcs,ht⟩
 ·obtain rfl:xs=[]:=List.eq_nil_of_length_eq_zero hn
  exact ⟨none,0,rfl,Nat.le_refl _,by simp[maxLen],fun hne=>absurd rfl hne⟩
 ·refine ⟨some ⟨g,0,none⟩,cap,by rw[List.length_map],by rw[List.length_map];exact hnc,hcm,fun hne=>⟨g,0,rfl,fun i r hi => ?_⟩⟩
  have hil:i < xs.length:=by have:=(List.getElem?_eq_some_iff.1 hi).1;simpa using this
  rw[M3 hil] at hi;injection hi with hi;subst hi;refine ⟨_,_,_,[.int .u8 ((xs.getD i 0:Nat):Int)],.inr ⟨hg,(Array.getElem?_eq_some_iff.1 hh).1⟩,hh,?_,[_],[],rfl,rfl,rfl⟩;have h2:=congrArg (fun l=>l[i]?) ht
  simp only[List.getElem?_take,Em] at h2;rw[if_pos (by omega),List.getElem?_eq_getElem hil] at h2
  have h3:=(List.getElem?_eq_some_iff.1 h2).1;rw[List.getD_eq_getElem?_getD,List.getElem?_eq_getElem hil];apply List.ext_getElem?;intro j;cases j with
  | zero=>simp only[List.getElem?_take,List.getElem?_drop];simpa using h2
  | succ j=>simp;omega
abbrev bbx (xs:List Nat):Ent:=⟨5,some (1,xs.length),Aa (xs.map Ah)⟩
theorem PS:XLe (.z) (.b (.it (bI []))):=by
 intro N w g l h;have h:l=[.slice none 0 0]:=h;exact ⟨none,0,h,Nat.le_refl _,by simp[maxLen],fun hr=>absurd rfl hr⟩
section
variable {P:Program}{I:WInv}
theorem X0 (t e:TypeId)(sz:Nat)(rows:List (List It0))(m:Nat)(z:Int)(hz:z=(m:Int))(hm:m≤rows.length)(ht:P.underlying t=some (.slice e))(hs:Ci P e=some sz):Bx P (.slc t true false false) [tit (slI sz rows),li z] (tit (slI sz (rows.drop m))):=by
 intro N w g vs hv;obtain ⟨v,x,rfl,⟨A,c,e1,hc1,hc2,h⟩,h2⟩:=D4 hv;injection e1 with e1;subst e1 hz;have h2:[x]=[.int .i64 (m:Int)]:=h2;injection h2 with h2;subst h2;refine ⟨.slice (if c=m then A else A.map (·.add (m*sz))) (rows.length - m) (c - m),w,?_,Below.refl _ _,⟨_,c - m,by rw[List.length_drop],by rw[List.length_drop];omega,by omega,fun hr => ?_⟩⟩
 ·simp[OpK.run,Instr.sliceAt,Instr.slice,Instr.sliceBounds,Instr.sliceBound,asIntOf,AP ht,C4 hs,hm]
 ·have hlt:m < rows.length:=by
   by_cases h0:m < rows.length
   ·exact h0
   ·exact absurd (List.drop_eq_nil_of_le (by omega)) hr
  obtain ⟨b,off,hA,hrow⟩:=h (fun h0=>by rw[h0] at hlt;simp at hlt)
  subst hA;rw[if_neg (by omega)]
  refine ⟨b,off+m*sz,by simp[Addr.add],fun i r hi => ?_⟩
  rw[List.getElem?_drop] at hi;have:=(hrow _ _ hi).step (WStep.refl _ w) (N':=Nx N w w) (fun _ h => .inl h)
  rw[show off+m*sz+i*sz=off+(m+i)*sz by rw[Nat.add_mul];omega]
  exact this
theorem QR (t e:TypeId)(sz:Nat)(rows:List (List It0))(m:Nat)(z:Int)(hz:z=(m:Int))(hm:m≤rows.length)(ht:P.underlying t=some (.slice e))(hs:Ci P e=some sz):Bx P (.slc t false true false) [tit (slI sz rows),li z] (tit (slI sz (rows.take m))):=by
 intro N w g vs hv;obtain ⟨v,x,rfl,⟨A,c,e1,hc1,hc2,h⟩,h2⟩:=D4 hv;injection e1 with e1;subst e1 hz;have h2:[x]=[.int .i64 (m:Int)]:=h2;injection h2 with h2;subst h2;have hmc:m≤c:=by omega
 refine ⟨.slice A m c,w,?_,Below.refl _ _,⟨A,c,by rw[List.length_take,Nat.min_eq_left hm],by rw[List.length_take];omega,hc2,fun hr => ?_⟩⟩
 ·simp[OpK.run,Instr.sliceAt,Instr.slice,Instr.sliceBounds,Instr.sliceBound,asIntOf,AP ht,C4 hs,hmc]
  intro _;cases A with
  | none=>rfl
  | some a=>simp[Addr.add]
 ·obtain ⟨b,off,hA,hrow⟩:=h (fun h0=>hr (by rw[h0];simp))
  refine ⟨b,off,hA,fun i r hi => ?_⟩
  rw[List.getElem?_take] at hi;split at hi
  ·exact (hrow i r hi).step (WStep.refl _ _) (fun _ h => .inl h)
  ·cases hi
theorem Ea (xs:List Nat)(m:Nat)(z:Int)(hz:z=(m:Int))(hm:m≤xs.length):Bx Tryz.prog (.slc 31 true false false) [tit (bI xs),li z] (tit (bI (xs.drop m))):=by
 have:=X0 (P:=Tryz.prog) 31 5 1 (xs.map Ah) m z hz (by rw[List.length_map];exact hm) (by kernel_rfl) (by kernel_rfl)
 rwa [←List.map_drop] at this
theorem Gr (xs:List Nat)(m:Nat)(z:Int)(hz:z=(m:Int))(hm:m≤xs.length):Bx Tryz.prog (.slc 31 false true false) [tit (bI xs),li z] (tit (bI (xs.take m))):=by
 have:=QR (P:=Tryz.prog) 31 5 1 (xs.map Ah) m z hz (by rw[List.length_map];exact hm) (by kernel_rfl) (by kernel_rfl)
 rwa [←List.map_take] at this
theorem Qz (xs:List Nat):Bx Tryz.prog (.conv 31 9) [tit (bI xs)] (tS xs):=AaV 31 9 5 xs
end
section
variable {I:WInv}
theorem JO {N:Nat→Prop}{w w':World}{xs:List Nat}{err:Int}{t:TypeId}{e:Ending}(h:Ez .u8 t w xs err e w') : ∃ v,e = .returned v∧(TV.tu [.t (bI xs),ci err]).sem (Nx N w w') w' G0 v∧Below w.heap.size w w':=by
 obtain ⟨v,e1,h1⟩:=h;exact ⟨_,e1,⟨_,rfl,_,_,rfl,SX h1,_,_,rfl,rfl,rfl⟩,h1.2⟩
theorem AcO (n:Int):Sp Tryz.prog I 88 [ci n] (.tu [.t (bI (Tx n).1),ci (Tx n).2]):=by
 intro N w vs _ _ hv;rw[K8 hv];exact (N4 n w).mono fun e w' he=>JO he
theorem AcQ (n:Int):Sp Tryz.prog I 93 [ci n] (.tu [.t (bI (Wv n).1),ci (Wv n).2]):=by
 intro N w vs _ _ hv;rw[K8 hv];exact (Od n w).mono fun e w' he=>JO he
theorem AcP {xs:List Nat}(hx:B8 xs)(hl:xs.length≤1000000):Sp Tryz.prog I 92 [cS xs] (.tu [.t (bI (Wu (AR xs)).1),ci (Wu (AR xs)).2]):=by
 intro N w vs _ _ hv;rw[K8 hv];exact (N5 (AR xs) w (by rw[BM];omega)).mono fun e w' he=>JO he
theorem AcU {xs:List Nat}(hx:B8 xs):Sp Tryz.prog I 66 [.t (bI xs)] (.tu [ci ((Bt xs).1:Nat),ci ((Bt xs).2.1:Nat),ci ((Bt xs).2.2:Nat)]):=by
 intro N w vs _ hN hv;obtain ⟨v,r,rfl,h,h'⟩:=hv;have h':r=[]:=h';subst h';obtain ⟨A,c,e1,h1,h2,h3⟩:=OZ h;injection e1 with e1;subst e1;refine (DD w h1 hx (by omega)).mono fun e w' ⟨he,hw⟩ => ?_
 subst he hw;exact ⟨_,rfl,⟨_,rfl,_,_,rfl,rfl,_,_,rfl,rfl,_,_,rfl,rfl,rfl⟩,Below.refl _ _⟩
theorem AcW {xs:List Nat}(hx:B8 xs):Sp Tryz.prog I 106 [.t (bI xs)] (.tu [ci (Fw xs).1,ci ((Fw xs).2.1:Nat),ci ((Fw xs).2.2:Nat)]):=by
 intro N w vs _ hN hv;obtain ⟨v,r,rfl,h,h'⟩:=hv;have h':r=[]:=h';subst h';obtain ⟨A,c,e1,h1,h2,h3⟩:=OZ h;injection e1 with e1;subst e1;refine (Oe w h1 hx (by omega)).mono fun e w' ⟨he,hw⟩ => ?_
 subst he hw;exact ⟨_,rfl,⟨_,rfl,_,_,rfl,rfl,_,_,rfl,rfl,_,_,rfl,rfl,rfl⟩,Below.refl _ _⟩
theorem AcV {xs:List Nat}(hx:B8 xs):Sp Tryz.prog I 105 [.t (bI xs)] (.tu [cS (Di xs).1,ci ((Di xs).2.1:Nat),ci ((Di xs).2.2:Nat)]):=by
 intro N w vs _ hN hv;obtain ⟨v,r,rfl,h,h'⟩:=hv;have h':r=[]:=h';subst h';obtain ⟨A,c,e1,h1,h2,h3⟩:=OZ h;injection e1 with e1;subst e1;refine (NB w h1 hx h2 h3).mono fun e w' ⟨he,hw⟩ => ?_
 subst he hw;exact ⟨_,rfl,⟨_,rfl,_,_,rfl,rfl,_,_,rfl,rfl,_,_,rfl,rfl,rfl⟩,Below.refl _ _⟩
end
theorem Ma (c:Nat)(l:List Nat):nd (c::l)=(c - 48)*10 ^ l.length+nd l:=by
 have h:=KX [c] l;rw[show [c]++l=c::l from rfl,show nd [c]=0*10+(c - 48) from rfl,Nat.zero_mul,Nat.zero_add] at h;exact h
theorem Yf {l:List Nat}(h:H8 l)(h1:l≠[48]):0 < nd l:=by
 obtain ⟨h2,h3,h4⟩:=h;cases l with
 | nil=>exact absurd rfl h2
 | cons c r =>
  have hc:=h3 c (by simp)
  by_cases h0:c=48
  ·subst h0
   exfalso;cases r with
   | nil=>exact h1 rfl
   | cons a r=>exact h4 ⟨by simp,by simp⟩
  ·rw[Ma]
   have:0 < (c - 48)*10 ^ r.length:=Nat.mul_pos (by omega) (Nat.pow_pos (by omega))
   omega
theorem Ac7 (k:Nat):nd (List.replicate k 48)=0:=by
 induction k with
 | zero=>rfl
 | succ k ih=>rw[List.replicate_succ,Ma,ih];simp
theorem Ac6 (k:Nat):nd (49::List.replicate k 48)=10 ^ k:=by
 rw[Ma,Ac7,List.length_replicate];simp
theorem Ry (l:List Nat):nd (l.dropWhile (· == 48))=nd l:=by
 induction l with
 | nil=>rfl
 | cons c r ih =>
  rw[List.dropWhile_cons];by_cases h:c=48
  ·subst h
   simp only[beq_self_eq_true,if_true];rw[ih,Ma];simp
  ·have:(c == 48)=false:=by rw[beq_eq_false_iff_ne];exact h
   rw[this];rfl
theorem okD.rep (k:Nat):okD (List.replicate k 48):=fun c hc=>by have:=List.eq_of_mem_replicate hc;omega
theorem okD.cons {c:Nat}{l:List Nat}(h:48≤c∧c≤57)(hl:okD l):okD (c::l):=fun x hx=>by
 rcases List.mem_cons.1 hx with h1 | h1
 ·rw[h1];exact h
 ·exact hl x h1
theorem okD.app {a b:List Nat}(h:okD a)(hl:okD b):okD (a++b):=fun x hx=>(List.mem_append.1 hx).elim (h x) (hl x)
theorem okD.b8 {l:List Nat}(h:okD l):B8 l:=fun x hx=>by have:=h x hx;omega
theorem Sd (k:Nat):H8 (49::List.replicate k 48):=⟨by simp,okD.cons (by omega) (okD.rep k),by simp⟩
theorem T6 {l:List Nat}(h:okD l)(h1:l.dropWhile (· == 48)≠[]):H8 (l.dropWhile (· == 48)):=by
 refine ⟨h1,fun c hc=>h c ((List.dropWhile_sublist _).subset hc),fun g => ?_⟩
 have hd:=List.head_dropWhile_not (· == 48) h1;obtain ⟨g1,_⟩:=g;generalize l.dropWhile (· == 48)=m at *;cases m with
 | nil=>exact h1 rfl
 | cons a m =>
  simp at g1 hd;omega
theorem Zb {l:List Nat}(h:H8 l):BV l=false∧Be l=l:=by
 have h1:BV l=false:=by
  unfold BV;rw[beq_eq_false_iff_ne];have:=h.2.1.getD (k:=0) (List.length_pos_iff.2 h.1);omega
 exact ⟨h1,by unfold Be;rw[h1];rfl⟩
theorem Hp {l:List Nat}(h:H8 l)(hl:l.length≤400):PA l (nd l:Nat) 0:=by
 obtain ⟨h1,h2⟩:=Zb h;refine .inr (.inl ⟨hl,?_,rfl,?_⟩)
 ·rw[h1,h2];exact ⟨h,fun g=>by cases g.1⟩
 ·rw[h1,h2];rfl
theorem JU {l:List Nat}(h:Da (BV l) (Be l))(hl:l.length≤400):PA l (sgn (BV l) (nd (Be l))) 0 := .inr (.inl ⟨hl,h,rfl,rfl⟩)
theorem PK {l:List Nat}(h : ¬ Da (BV l) (Be l))(hl:l.length≤400):PA l 0 1 := .inr (.inr ⟨hl,h,rfl,rfl⟩)
theorem RN {l:List Nat}(h:Da (BV l) (Be l))(hd : ¬ H8 l):sgn (BV l) (nd (Be l)) < 0:=by
 cases hn:BV l with
 | false =>
  exfalso;rw[hn] at h;have:Be l=l:=by unfold Be;rw[hn];rfl
  rw[this] at h;exact hd h.1
 | true =>
  rw[hn] at h;have:=Yf h.1 (fun e=>h.2 ⟨rfl,e⟩)
  rw[Ab0];omega
theorem XT:(10:Nat) ^ 800 < 4294967296 ^ 84:=by decide +kernel
theorem DA {l:List Nat}(h:okD l)(hl:l.length≤800):Lim 84 (nd l:Nat):=by
 unfold Lim;have h1:=Rx _ l rfl h;rw[Int.natAbs_natCast];exact Nat.lt_of_lt_of_le h1 (Nat.le_trans (Nat.pow_le_pow_right (by omega) hl) (Nat.le_of_lt XT))
theorem TU {k:Nat}(hk:k≤800):Lim 84 ((10 ^ k:Nat):Int):=by
 unfold Lim;rw[Int.natAbs_natCast];exact Nat.lt_of_le_of_lt (Nat.pow_le_pow_right (by omega) hk) XT
theorem AbT (k:Nat):((10 ^ k:Nat):Int)≠0:=by
 have:0 < 10 ^ k:=Nat.pow_pos (by omega)
 omega
theorem Lim.sgn {k:Nat}{n:Nat}(h:Lim k (n:Int))(s:Bool):Lim k (sgn s n):=by
 unfold Lim at *;rw[Bw]
 rwa [Int.natAbs_natCast] at h
theorem Kl (z:Int):B8 (Dd z):=by
 intro c hc;unfold Dd D5 at hc;rcases List.mem_append.1 hc with h | h
 ·split at h <;> simp at h;omega
 ·exact Lh _ c h
theorem RU (n:Nat):Dd (n:Int)=dec n:=by
 unfold Dd D5;rw[Int.natAbs_natCast,if_neg (fun h=>by have:=of_decide_eq_true h.1;omega)]
 rfl
theorem J0 (z:Int) : ∀ c∈Dd z,c=45∨(48≤c∧c≤57):=by
 intro c hc;unfold Dd D5 at hc;rcases List.mem_append.1 hc with h | h
 ·split at h <;> simp at h;exact .inl h
 ·exact .inr (FH _ c h)
theorem Y4 (d:Nat):Dd (d:Int)=[49]↔d=1:=by
 rw[RU];constructor
 ·intro h
  have:=Nj d;rw[h] at this;exact this.symm
 ·intro h;rw[h,C7 (by omega)]
theorem Kk {z:Int}{k:Nat}(h:Lim k z):(Dd z).length≤18*k+2:=by
 unfold Dd;by_cases h0:z.natAbs=0
 ·rw[h0,FG];simp
 ·have:=OR z.natAbs h0
  have h2:=B9 h;unfold D5;rw[List.length_append];split <;> simp <;> omega
theorem XW (z:Int)(h:(Dd z).length≤400):PA (Dd z) z 0:=by
 have:=Abt (decide (z < 0)) z.natAbs h;have e:sgn (decide (z < 0)) z.natAbs=z:=by
  unfold sgn;by_cases h0:z < 0
  ·rw[decide_eq_true h0];simp;omega
  ·rw[decide_eq_false h0];simp;omega
 rwa [e] at this
theorem Se (n:Nat):H8 (dec n):=(Sf false n (.inr rfl)).1
def Co (q:Rat):List Nat:=if q.den=1 then Dd q.num else Dd q.num++([47]++Dd (q.den:Int))
theorem Mi (q:Rat):B8 (Co q):=by
 unfold Co;split
 ·exact Kl _
 ·exact (Kl _).app (B8.app (fun x hx=>by simp at hx;omega) (Kl _))
theorem Tv (q:Rat)(h:q.den≠1):DI 47 (Co q)=some (Dd q.num).length:=by
 unfold Co;rw[if_neg h];exact RL fun x hx=>by have:=J0 _ x hx;omega
theorem Wq (q:Rat)(h:q.den=1):DI 47 (Co q)=none∧DI 46 (Co q)=none:=by
 unfold Co;rw[if_pos h];exact ⟨Qi fun x hx=>by have:=J0 _ x hx;omega,Qi fun x hx=>by have:=J0 _ x hx;omega⟩
theorem Sp.inv {P:Program}{I I':WInv}{f:FuncId}{args:List CT}{res:TV}(h:Sp P I f args res)(hi : ∀ N w,I'.T N w→I.T N w):Sp P I' f args res:=fun N w vs hI hl hv=>h N w vs (hi N w hI) hl hv
def Aq:WInv:=⟨fun N w=>DG.T N w∧(∃ m:Int,w.cell? ⟨0,0,none⟩=some (.int .i64 m))∧N 0,fun {N N' w w'} hw hN ⟨h1,⟨m,h2⟩,h3⟩=>⟨DG.step hw hN h1,⟨m,by
 have hlt:0 < w.heap.size:=by
  rcases Nat.lt_or_ge 0 w.heap.size with h' | h'
  ·exact h'
  ·unfold World.cell? at h2
   rw[Array.getElem?_eq_none h'] at h2;simp at h2
 rcases hw.keep _ hlt with e | e
 ·unfold World.cell? at h2 ⊢
  rw[e];exact h2
 ·exact absurd h3 e.1⟩,hN _ h3⟩⟩
theorem SD : ∀ N w,Aq.T N w→DG.T N w:=fun N w h=>h.1
theorem AbK {c:Nat}(hc:c < 256){xs:List Nat}(hx:B8 xs):Lib.cut (AR xs).data.toList (AR [c]).data.toList=match DI c xs with
  | some i=>((xs.take i).map UInt8.ofNat,(xs.drop (i+1)).map UInt8.ofNat,true)
  | none=>(xs.map UInt8.ofNat,[],false):=by
 rw[CD,CD,show [c].map UInt8.ofNat=[UInt8.ofNat c] from rfl];unfold Lib.cut;rw[No hc hx];cases DI c xs with
 | none=>simp
 | some i =>
  have:(0:Int)≤(i:Int):=by omega
  simp[this,List.map_take,List.map_drop]
theorem NF {c i:Nat}(hc:c < 256){xs:List Nat}(hx:B8 xs)(hl:xs.length≤1000000)(hi:DI c xs=some i):Sp Tryz.prog Aq 100 [cS xs,cS [c]] (.tu [cS (xs.take i),cS (xs.drop (i+1)),cb true]):=by
 intro N w vs hI _ hv;obtain ⟨v,r,rfl,h1,v2,r2,rfl,h3,h4⟩:=hv;have h1:[v]=[.string (AR xs)]:=h1;have h3:[v2]=[.string (AR [c])]:=h3;injection h1 with h1;injection h3 with h3;obtain rfl:r2=[]:=h4;subst h1 h3;obtain ⟨m,hm⟩:=hI.2.1;refine (Tryz.strings_Cut (AR xs) (AR [c]) m w (by rw[BM];omega) hm).mono ?_
 rintro e w' ⟨rfl,n,rfl⟩;rw[AbK hc hx,hi];exact ⟨_,rfl,⟨_,rfl,_,_,rfl,(rfl:[_]=[_]),_,_,rfl,(rfl:[_]=[_]),_,_,rfl,(rfl:[_]=[_]),rfl⟩,LA w n⟩
theorem GU {c:Nat}(hc:c < 256){xs:List Nat}(hx:B8 xs)(hl:xs.length≤1000000)(hi:DI c xs=none):Sp Tryz.prog Aq 100 [cS xs,cS [c]] (.tu [cS xs,cS [],cb false]):=by
 intro N w vs hI _ hv;obtain ⟨v,r,rfl,h1,v2,r2,rfl,h3,h4⟩:=hv;have h1:[v]=[.string (AR xs)]:=h1;have h3:[v2]=[.string (AR [c])]:=h3;injection h1 with h1;injection h3 with h3;obtain rfl:r2=[]:=h4;subst h1 h3;obtain ⟨m,hm⟩:=hI.2.1;refine (Tryz.strings_Cut (AR xs) (AR [c]) m w (by rw[BM];omega) hm).mono ?_
 rintro e w' ⟨rfl,n,rfl⟩;rw[AbK hc hx,hi];exact ⟨_,rfl,⟨_,rfl,_,_,rfl,(rfl:[_]=[_]),_,_,rfl,(rfl:[_]=[_]),_,_,rfl,(rfl:[_]=[_]),rfl⟩,LA w n⟩
section
variable {I:WInv}{n d:Int}{k0:Nat}{q1 q2:IntP}
theorem b49:B8 [49]:=by intro x hx;simp at hx;omega
theorem Acz (h1:Fk q1 q2 n d k0)(hk0:k0≤1000):Sp Tryz.prog DG 37 [fr q1 q2] (tS (Co (Rat.divInt n d))):=by
 have pa:=FB (I:=DG) h1.a h1.b h1.big.1 h1.big.2;have hd:=GE d;have re:=Db (I:=DG) (B7 (pn n d)) (B7 (pd d)) ((KQ h1.ln d).mono (by omega)) ((Na h1.ld h1.k0).mono (by omega)) (by omega)
 rw[L2] at re;have lq:=h1.lq;generalize Rat.divInt n d=q at *;have fn:=AbF (Bj lq.n (by omega))
 have fd:=AbF (Bj lq.d (by omega))
 have ln:=Kk lq.n;have ld:=Kk lq.d;have bn:=Kl q.num;have bd:=Kl (q.den:Int);have h1':=Y4 q.den;unfold Co;by_cases h:q.den=1
 ·rw[if_pos h]
  exact sr 28 [po pa,po re,po fn,po fd,pk (KD 9 (Dd (q.den:Int)) [49] false (decide_eq_true (h1'.2 h)) bd b49)]
 ·rw[if_neg h]
  exact sr 28 [po pa,po re,po fn,po fd,pk (KD 9 (Dd (q.den:Int)) [49] true (decide_eq_false (fun e=>h (h1'.1 e))) bd b49),pk (G1 9 [47] (Dd (q.den:Int)) (by simp;omega)),pk (G1 9 (Dd q.num) ([47]++Dd (q.den:Int)) (by simp;omega))]
end
def Eh (n:Int):Bool:=decide (0≤n)&&decide (n≤1099511627776)
def Bm (x:Ch):Bool:=Eh x.node&&Eh x.fst&&Eh x.nxt&&BG x.cost&&(if x.kind=1 then decide (x.fst=0)&&decide (x.nxt=0)&&decide (x.cost=0) else if x.kind=2 then decide (x.q.num.sign=0)&&decide (x.cost=0) else if x.kind=3 then decide (x.q.num.sign=0)&&decide (x.fst=0)&&decide (x.nxt=0)&&decide (x.node=0) else false)
def OI (x:Ch):List Nat:=if x.kind=1 then Ad (Co x.q).length++Co x.q else if x.kind=2 then Ad x.fst.toNat++Ad x.nxt.toNat else Ad (zig x.cost)
def Bs (x:Ch):List Nat×Int:=if Bm x=false then ([],5) else if x.kind=1∧400 < (Co x.q).length then ([],10) else (Ad x.kind.toNat++Ad x.node.toNat++OI x,0)
abbrev chK (c:Bool)(k:Nat)(x:Ch):CT := .ag [.i x.kind,.i x.node,.b (.it (fF c k x.q)),.i x.fst,.i x.nxt,.i x.cost]
abbrev Adp:Ent:=⟨67,none,[.z,.i 0]⟩
abbrev wbx (k:Nat):Ent:=⟨67,none,[.sl k,.i 0]⟩
theorem AaI {n:Nat}(h:n≤4611686018427387904):Tx (n:Int)=(Ad n,0):=by unfold Tx;rw[if_pos ⟨by omega,by omega⟩];rfl
theorem PQ {n:Int}(h:Eh n=true):0≤n∧n≤1099511627776:=by unfold Eh at h;simpa using h
theorem DE {n:Int}(h:BG n=true) : -288230376151711744≤n∧n≤288230376151711744:=by unfold BG at h;simpa using h
section
variable {I:WInv}{c:Bool}{k:Nat}
theorem UI (n:Nat)(h:n≤4611686018427387904):Sp Tryz.prog I 88 [ci (n:Int)] (.tu [.t (bI (Ad n)),ci 0]):=by
 have:=AcO (I:=I) (n:Int)
 rwa [AaI h] at this
theorem AaJ (z:Int)(h:BG z=true):Sp Tryz.prog I 93 [ci z] (.tu [.t (bI (Ad (zig z))),ci 0]):=by
 have:=AcQ (I:=I) z;have hc:=DE h;unfold Wv at this
 rwa [if_pos ⟨by omega,by omega⟩] at this
theorem AaH {xs:List Nat}(hx:B8 xs)(h:xs.length≤400):Sp Tryz.prog I 92 [cS xs] (.tu [.t (bI (Ad xs.length++xs)),ci 0]):=by
 have:=AcP (I:=I) hx (by omega)
 unfold Wu at this
 rwa [BM,if_pos (by omega),hx.bo] at this
theorem Abo (xs:List Nat)(hl:xs.length≤1000000):SpM Tryz.prog I 87 [(0,some Adp)] [.one (.ptr 0 0),.t (bI xs),ci 0] [(2,some (bbx xs)),(0,some (wbx 2))] (.tu []) :=
 sm 24 [pa,⟨.src 1 (bI xs) ((xs).map Ah).length ((xs).map Ah).flatten,Cg Bp (AZ _)⟩,⟨.ap 0 (((xs).map Ah).length) 1,⟨by simp;omega,by simp[maxLen];omega⟩⟩,pm ((show Leads I _ ⟨[],[(19,some ⟨5,some (1,((xs).map Ah).length),((xs).map Ah).flatten.map It.b⟩),(0,some ⟨67,none,[.sl 19,.i 0]⟩)],23⟩ ⟨[],[(2,some ⟨5,some (1,(xs).length),Aa ((xs).map Ah)⟩),(0,some ⟨67,none,[.sl 2,.i 0]⟩)],23⟩ from AL [(2,19)] trivial ⟨rfl,rfl,(congrArg (fun m=>some (1,m)) (show ((xs).map Ah).length=(xs).length by simp)),ILe.eq (show ((xs).map Ah).flatten.map It.b=Aa ((xs).map Ah) from by simp[Aa]),rfl,rfl,rfl,ILe.refl,trivial⟩))]
theorem Q6 (ys xs:List Nat)(hl:xs.length≤1000000)(hy:ys.length≤1000000):SpM Tryz.prog I 87 [(0,some (wbx 1)),(1,some (bbx ys))] [.one (.ptr 0 0),.t (bI xs),ci 0] [(2,some (bbx (ys++xs))),(0,some (wbx 2))] (.tu []) :=
 sm 24 [pa,⟨.src 1 (bI xs) ((xs).map Ah).length ((xs).map Ah).flatten,Cg Bp (AZ _)⟩,⟨.ap ((ys).length) (((xs).map Ah).length) 1,⟨by simp;omega,by simp[maxLen];omega⟩⟩,pm ((show Leads I _ ⟨[],[(19,some ⟨5,some (1,(ys).length+((xs).map Ah).length),(Aa ((ys).map Ah))++(((xs).map Ah).flatten.map It.b)⟩),(0,some ⟨67,none,[.sl 19,.i 0]⟩)],23⟩ ⟨[],[(2,some ⟨5,some (1,(ys++xs).length),Aa ((ys++xs).map Ah)⟩),(0,some ⟨67,none,[.sl 2,.i 0]⟩)],23⟩ from AL [(2,19)] trivial ⟨rfl,rfl,(congrArg (fun m=>some (1,m)) (show (ys).length+((xs).map Ah).length=(ys++xs).length by simp)),ILe.eq (show (Aa ((ys).map Ah))++(((xs).map Ah).flatten.map It.b)=Aa ((ys++xs).map Ah) from by simp[Aa]),rfl,rfl,rfl,ILe.refl,trivial⟩ (hnp:=⟨fun _=>BU (Aw _) (Aw _),fun h=>absurd h Bool.false_ne_true,trivial⟩)))]
theorem He (n:Nat)(h:n≤4611686018427387904):SpM Tryz.prog I 36 [(0,some Adp)] [.one (.ptr 0 0),ci (n:Int)] [(2,some (bbx (Ad n))),(0,some (wbx 2))] (.tu []):=by
 have h9:=AM h;exact sm 10 [po (UI n h),pom [0] (Abo (Ad n) (by omega)),pm ((show Leads I _ ⟨[],[(8,some ⟨5,some (1,(Ad n).length),Aa ((Ad n).map Ah)⟩),(0,some ⟨67,none,[.sl 8,.i 0]⟩)],9⟩ ⟨[],[(2,some ⟨5,some (1,(Ad n).length),Aa ((Ad n).map Ah)⟩),(0,some ⟨67,none,[.sl 2,.i 0]⟩)],9⟩ from AL [(2,8)] trivial ⟨rfl,rfl,(congrArg (fun m=>some (1,m)) (show (Ad n).length=(Ad n).length by simp)),ILe.eq (show Aa ((Ad n).map Ah)=Aa ((Ad n).map Ah) from by simp[Aa]),rfl,rfl,rfl,ILe.refl,trivial⟩))]
theorem E0 (ys:List Nat)(hy:ys.length≤1000000)(n:Nat)(h:n≤4611686018427387904):SpM Tryz.prog I 36 [(0,some (wbx 1)),(1,some (bbx ys))] [.one (.ptr 0 0),ci (n:Int)] [(2,some (bbx (ys++Ad n))),(0,some (wbx 2))] (.tu []):=by
 have h9:=AM h;exact sm 10 [po (UI n h),pom [0,1] (Q6 (ys) (Ad n) (by omega) (by omega)),pm ((show Leads I _ ⟨[],[(8,some ⟨5,some (1,(ys++(Ad n)).length),Aa ((ys++(Ad n)).map Ah)⟩),(0,some ⟨67,none,[.sl 8,.i 0]⟩)],9⟩ ⟨[],[(2,some ⟨5,some (1,(ys++(Ad n)).length),Aa ((ys++(Ad n)).map Ah)⟩),(0,some ⟨67,none,[.sl 2,.i 0]⟩)],9⟩ from AL [(2,8)] trivial ⟨rfl,rfl,(congrArg (fun m=>some (1,m)) (show (ys++(Ad n)).length=(ys++(Ad n)).length by simp)),ILe.eq (show Aa ((ys++(Ad n)).map Ah)=Aa ((ys++(Ad n)).map Ah) from by simp[Aa]),rfl,rfl,rfl,ILe.refl,trivial⟩))]
theorem Xf (ys:List Nat)(hy:ys.length≤1000000)(z:Int)(h:BG z=true):SpM Tryz.prog I 39 [(0,some (wbx 1)),(1,some (bbx ys))] [.one (.ptr 0 0),ci z] [(2,some (bbx (ys++Ad (zig z)))),(0,some (wbx 2))] (.tu []):=by
 have h9:=AM (Mr z (by have:=DE h;omega) (by have:=DE h;omega))
 exact sm 10 [po (AaJ z h),pom [0,1] (Q6 (ys) (Ad (zig z)) (by omega) (by omega)),pm ((show Leads I _ ⟨[],[(8,some ⟨5,some (1,(ys++(Ad (zig z))).length),Aa ((ys++(Ad (zig z))).map Ah)⟩),(0,some ⟨67,none,[.sl 8,.i 0]⟩)],9⟩ ⟨[],[(2,some ⟨5,some (1,(ys++(Ad (zig z))).length),Aa ((ys++(Ad (zig z))).map Ah)⟩),(0,some ⟨67,none,[.sl 2,.i 0]⟩)],9⟩ from AL [(2,8)] trivial ⟨rfl,rfl,(congrArg (fun m=>some (1,m)) (show (ys++(Ad (zig z))).length=(ys++(Ad (zig z))).length by simp)),ILe.eq (show Aa ((ys++(Ad (zig z))).map Ah)=Aa ((ys++(Ad (zig z))).map Ah) from by simp[Aa]),rfl,rfl,rfl,ILe.refl,trivial⟩))]
theorem Vh (ys:List Nat)(hy:ys.length≤1000000){xs:List Nat}(hx:B8 xs)(h:xs.length≤400):SpM Tryz.prog I 38 [(0,some (wbx 1)),(1,some (bbx ys))] [.one (.ptr 0 0),cS xs] [(2,some (bbx (ys++(Ad xs.length++xs)))),(0,some (wbx 2))] (.tu []):=by
 have h9:=AM (n:=xs.length) (by omega)
 have hl:(Ad xs.length++xs).length≤1000:=by rw[List.length_append];omega
 exact sm 10 [po (AaH hx h),pom [0,1] (Q6 (ys) (Ad xs.length++xs) (by omega) (by omega)),pm ((show Leads I _ ⟨[],[(8,some ⟨5,some (1,(ys++(Ad xs.length++xs)).length),Aa ((ys++(Ad xs.length++xs)).map Ah)⟩),(0,some ⟨67,none,[.sl 8,.i 0]⟩)],9⟩ ⟨[],[(2,some ⟨5,some (1,(ys++(Ad xs.length++xs)).length),Aa ((ys++(Ad xs.length++xs)).map Ah)⟩),(0,some ⟨67,none,[.sl 2,.i 0]⟩)],9⟩ from AL [(2,8)] trivial ⟨rfl,rfl,(congrArg (fun m=>some (1,m)) (show (ys++(Ad xs.length++xs)).length=(ys++(Ad xs.length++xs)).length by simp)),ILe.eq (show Aa ((ys++(Ad xs.length++xs)).map Ah)=Aa ((ys++(Ad xs.length++xs)).map Ah) from by simp[Aa]),rfl,rfl,rfl,ILe.refl,trivial⟩))]
theorem AH (n:Int)(b:Bool)(h:Eh n=b):Sp Tryz.prog I 85 [ci n] (lb b):=by
 unfold Eh at h;by_cases h1:0≤n
 ·by_cases h2:n≤1099511627776
  ·rw[decide_eq_true h1,decide_eq_true h2] at h;subst h
   exact sr 9 [pk (Bn 3 n 0),pk (Ha 3 n 1099511627776)]
  ·rw[decide_eq_true h1,decide_eq_false h2] at h;subst h
   exact sr 9 [pk (Bn 3 n 0),pk (J6 3 n 1099511627776)]
 ·rw[decide_eq_false h1] at h;subst h
  exact sr 9 [pk (Bd 3 n 0)]
set_option maxRecDepth 100000 in
theorem AdJ (x : Ch) (hk : k ≤ 262144) : Sp Tryz.prog I 35 [chK c k x] (lb (Bm x)) := by
 cases h1:Eh x.node
 ·rw[show Bm x=false by unfold Bm;simp[h1] <;> decide]
  exact sr 76 [po (AH x.node false h1),pa]
 ·cases h2 : Eh x.fst
  ·rw[show Bm x=false by unfold Bm;simp[h1,h2] <;> decide]
   exact sr 76 [po (AH x.node true h1),pa,po (AH x.fst false h2),pa]
  ·cases h3 : Eh x.nxt
   ·rw[show Bm x=false by unfold Bm;simp[h1,h2,h3] <;> decide]
    exact sr 76 [po (AH x.node true h1),pa,po (AH x.fst true h2),pa,po (AH x.nxt false h3),pa]
   ·cases h4 : BG x.cost
    ·have h5:=h4
     unfold BG at h5;simp at h5;by_cases h6:x.cost < -288230376151711744
     ·rw[show Bm x=false by unfold Bm;simp[h1,h2,h3,h4] <;> decide]
      exact sr 76 [po (AH x.node true h1),pa,po (AH x.fst true h2),pa,po (AH x.nxt true h3),pa,pk (Ak 3 x.cost (-288230376151711744))]
     ·rw[show Bm x=false by unfold Bm;simp[h1,h2,h3,h4] <;> decide]
      exact sr 76 [po (AH x.node true h1),pa,po (AH x.fst true h2),pa,po (AH x.nxt true h3),pa,pk (Ai 3 x.cost (-288230376151711744)),pk (BY 3 x.cost 288230376151711744)]
    ·have hcc := DE h4
     by_cases hq:x.q.num.sign=0
     ·by_cases hf : x.fst = 0
      ·by_cases hn : x.nxt = 0
       ·by_cases k1 : x.kind = 1
        ·by_cases hz:x.cost=0
         ·rw[show Bm x=true by unfold Bm;simp[h1,h2,h3,h4,hq,hf,hn,k1,hz] <;> decide]
          exact sr 76 [po (AH x.node true h1),pa,po (AH x.fst true h2),pa,po (AH x.nxt true h3),pa,pk (Ai 3 x.cost (-288230376151711744)),pk (Au 3 x.cost 288230376151711744),po (Cp (p:=x.q) (c:=c) (k:=k) x.q.num.sign rfl hk),pk (Ao 3 x.q.num.sign 0),pk (Ao 3 x.fst 0),pk (Ao 3 x.nxt 0),pk (Ar 3 x.kind 1),pa,pk (Ar 3 x.cost 0)]
         ·rw[show Bm x=false by unfold Bm;simp[h1,h2,h3,h4,hq,hf,hn,k1,hz] <;> decide]
          exact sr 76 [po (AH x.node true h1),pa,po (AH x.fst true h2),pa,po (AH x.nxt true h3),pa,pk (Ai 3 x.cost (-288230376151711744)),pk (Au 3 x.cost 288230376151711744),po (Cp (p:=x.q) (c:=c) (k:=k) x.q.num.sign rfl hk),pk (Ao 3 x.q.num.sign 0),pk (Ao 3 x.fst 0),pk (Ao 3 x.nxt 0),pk (Ar 3 x.kind 1),pa,pk (Ag 3 x.cost 0)]
        ·by_cases k2:x.kind=2
         ·by_cases hz:x.cost=0
          ·rw[show Bm x=true by unfold Bm;simp[h1,h2,h3,h4,hq,hf,hn,k1,k2,hz] <;> decide]
           exact sr 76 [po (AH x.node true h1),pa,po (AH x.fst true h2),pa,po (AH x.nxt true h3),pa,pk (Ai 3 x.cost (-288230376151711744)),pk (Au 3 x.cost 288230376151711744),po (Cp (p:=x.q) (c:=c) (k:=k) x.q.num.sign rfl hk),pk (Ao 3 x.q.num.sign 0),pk (Ao 3 x.fst 0),pk (Ao 3 x.nxt 0),pk (Ag 3 x.kind 1),pk (Ar 3 x.kind 2),pa,pk (Ar 3 x.cost 0)]
          ·rw[show Bm x=false by unfold Bm;simp[h1,h2,h3,h4,hq,hf,hn,k1,k2,hz] <;> decide]
           exact sr 76 [po (AH x.node true h1),pa,po (AH x.fst true h2),pa,po (AH x.nxt true h3),pa,pk (Ai 3 x.cost (-288230376151711744)),pk (Au 3 x.cost 288230376151711744),po (Cp (p:=x.q) (c:=c) (k:=k) x.q.num.sign rfl hk),pk (Ao 3 x.q.num.sign 0),pk (Ao 3 x.fst 0),pk (Ao 3 x.nxt 0),pk (Ag 3 x.kind 1),pk (Ar 3 x.kind 2),pa,pk (Ag 3 x.cost 0)]
         ·by_cases k3:x.kind=3
          ·by_cases hz:x.node=0
           ·rw[show Bm x=true by unfold Bm;simp[h1,h2,h3,h4,hq,hf,hn,k1,k2,k3,hz] <;> decide]
            exact sr 76 [po (AH x.node true h1),pa,po (AH x.fst true h2),pa,po (AH x.nxt true h3),pa,pk (Ai 3 x.cost (-288230376151711744)),pk (Au 3 x.cost 288230376151711744),po (Cp (p:=x.q) (c:=c) (k:=k) x.q.num.sign rfl hk),pk (Ao 3 x.q.num.sign 0),pk (Ao 3 x.fst 0),pk (Ao 3 x.nxt 0),pk (Ag 3 x.kind 1),pk (Ag 3 x.kind 2),pk (Ar 3 x.kind 3),pa,pa,pk (Ar 3 x.node 0)]
           ·rw[show Bm x=false by unfold Bm;simp[h1,h2,h3,h4,hq,hf,hn,k1,k2,k3,hz] <;> decide]
            exact sr 76 [po (AH x.node true h1),pa,po (AH x.fst true h2),pa,po (AH x.nxt true h3),pa,pk (Ai 3 x.cost (-288230376151711744)),pk (Au 3 x.cost 288230376151711744),po (Cp (p:=x.q) (c:=c) (k:=k) x.q.num.sign rfl hk),pk (Ao 3 x.q.num.sign 0),pk (Ao 3 x.fst 0),pk (Ao 3 x.nxt 0),pk (Ag 3 x.kind 1),pk (Ag 3 x.kind 2),pk (Ar 3 x.kind 3),pa,pa,pk (Ag 3 x.node 0)]
          ·rw[show Bm x=false by unfold Bm;simp[h1,h2,h3,h4,hq,hf,hn,k1,k2,k3] <;> decide]
           exact sr 76 [po (AH x.node true h1),pa,po (AH x.fst true h2),pa,po (AH x.nxt true h3),pa,pk (Ai 3 x.cost (-288230376151711744)),pk (Au 3 x.cost 288230376151711744),po (Cp (p:=x.q) (c:=c) (k:=k) x.q.num.sign rfl hk),pk (Ao 3 x.q.num.sign 0),pk (Ao 3 x.fst 0),pk (Ao 3 x.nxt 0),pk (Ag 3 x.kind 1),pk (Ag 3 x.kind 2),pk (Ag 3 x.kind 3)]
       ·by_cases k1:x.kind=1
        ·rw[show Bm x=false by unfold Bm;simp[h1,h2,h3,h4,hq,hf,hn,k1] <;> decide]
         exact sr 76 [po (AH x.node true h1),pa,po (AH x.fst true h2),pa,po (AH x.nxt true h3),pa,pk (Ai 3 x.cost (-288230376151711744)),pk (Au 3 x.cost 288230376151711744),po (Cp (p:=x.q) (c:=c) (k:=k) x.q.num.sign rfl hk),pk (Ao 3 x.q.num.sign 0),pk (Ao 3 x.fst 0),pk (AI 3 x.nxt 0),pk (Ar 3 x.kind 1),pa]
        ·by_cases k2:x.kind=2
         ·by_cases hz:x.cost=0
          ·rw[show Bm x=true by unfold Bm;simp[h1,h2,h3,h4,hq,hf,hn,k1,k2,hz] <;> decide]
           exact sr 76 [po (AH x.node true h1),pa,po (AH x.fst true h2),pa,po (AH x.nxt true h3),pa,pk (Ai 3 x.cost (-288230376151711744)),pk (Au 3 x.cost 288230376151711744),po (Cp (p:=x.q) (c:=c) (k:=k) x.q.num.sign rfl hk),pk (Ao 3 x.q.num.sign 0),pk (Ao 3 x.fst 0),pk (AI 3 x.nxt 0),pk (Ag 3 x.kind 1),pk (Ar 3 x.kind 2),pa,pk (Ar 3 x.cost 0)]
          ·rw[show Bm x=false by unfold Bm;simp[h1,h2,h3,h4,hq,hf,hn,k1,k2,hz] <;> decide]
           exact sr 76 [po (AH x.node true h1),pa,po (AH x.fst true h2),pa,po (AH x.nxt true h3),pa,pk (Ai 3 x.cost (-288230376151711744)),pk (Au 3 x.cost 288230376151711744),po (Cp (p:=x.q) (c:=c) (k:=k) x.q.num.sign rfl hk),pk (Ao 3 x.q.num.sign 0),pk (Ao 3 x.fst 0),pk (AI 3 x.nxt 0),pk (Ag 3 x.kind 1),pk (Ar 3 x.kind 2),pa,pk (Ag 3 x.cost 0)]
         ·by_cases k3:x.kind=3
          ·rw[show Bm x=false by unfold Bm;simp[h1,h2,h3,h4,hq,hf,hn,k1,k2,k3] <;> decide]
           exact sr 76 [po (AH x.node true h1),pa,po (AH x.fst true h2),pa,po (AH x.nxt true h3),pa,pk (Ai 3 x.cost (-288230376151711744)),pk (Au 3 x.cost 288230376151711744),po (Cp (p:=x.q) (c:=c) (k:=k) x.q.num.sign rfl hk),pk (Ao 3 x.q.num.sign 0),pk (Ao 3 x.fst 0),pk (AI 3 x.nxt 0),pk (Ag 3 x.kind 1),pk (Ag 3 x.kind 2),pk (Ar 3 x.kind 3),pa,pa]
          ·rw[show Bm x=false by unfold Bm;simp[h1,h2,h3,h4,hq,hf,hn,k1,k2,k3] <;> decide]
           exact sr 76 [po (AH x.node true h1),pa,po (AH x.fst true h2),pa,po (AH x.nxt true h3),pa,pk (Ai 3 x.cost (-288230376151711744)),pk (Au 3 x.cost 288230376151711744),po (Cp (p:=x.q) (c:=c) (k:=k) x.q.num.sign rfl hk),pk (Ao 3 x.q.num.sign 0),pk (Ao 3 x.fst 0),pk (AI 3 x.nxt 0),pk (Ag 3 x.kind 1),pk (Ag 3 x.kind 2),pk (Ag 3 x.kind 3)]
      ·by_cases k1:x.kind=1
       ·rw[show Bm x=false by unfold Bm;simp[h1,h2,h3,h4,hq,hf,k1] <;> decide]
        exact sr 76 [po (AH x.node true h1),pa,po (AH x.fst true h2),pa,po (AH x.nxt true h3),pa,pk (Ai 3 x.cost (-288230376151711744)),pk (Au 3 x.cost 288230376151711744),po (Cp (p:=x.q) (c:=c) (k:=k) x.q.num.sign rfl hk),pk (Ao 3 x.q.num.sign 0),pk (AI 3 x.fst 0),pk (Ar 3 x.kind 1),pa]
       ·by_cases k2:x.kind=2
        ·by_cases hz:x.cost=0
         ·rw[show Bm x=true by unfold Bm;simp[h1,h2,h3,h4,hq,hf,k1,k2,hz] <;> decide]
          exact sr 76 [po (AH x.node true h1),pa,po (AH x.fst true h2),pa,po (AH x.nxt true h3),pa,pk (Ai 3 x.cost (-288230376151711744)),pk (Au 3 x.cost 288230376151711744),po (Cp (p:=x.q) (c:=c) (k:=k) x.q.num.sign rfl hk),pk (Ao 3 x.q.num.sign 0),pk (AI 3 x.fst 0),pk (Ag 3 x.kind 1),pk (Ar 3 x.kind 2),pa,pk (Ar 3 x.cost 0)]
         ·rw[show Bm x=false by unfold Bm;simp[h1,h2,h3,h4,hq,hf,k1,k2,hz] <;> decide]
          exact sr 76 [po (AH x.node true h1),pa,po (AH x.fst true h2),pa,po (AH x.nxt true h3),pa,pk (Ai 3 x.cost (-288230376151711744)),pk (Au 3 x.cost 288230376151711744),po (Cp (p:=x.q) (c:=c) (k:=k) x.q.num.sign rfl hk),pk (Ao 3 x.q.num.sign 0),pk (AI 3 x.fst 0),pk (Ag 3 x.kind 1),pk (Ar 3 x.kind 2),pa,pk (Ag 3 x.cost 0)]
        ·by_cases k3:x.kind=3
         ·rw[show Bm x=false by unfold Bm;simp[h1,h2,h3,h4,hq,hf,k1,k2,k3] <;> decide]
          exact sr 76 [po (AH x.node true h1),pa,po (AH x.fst true h2),pa,po (AH x.nxt true h3),pa,pk (Ai 3 x.cost (-288230376151711744)),pk (Au 3 x.cost 288230376151711744),po (Cp (p:=x.q) (c:=c) (k:=k) x.q.num.sign rfl hk),pk (Ao 3 x.q.num.sign 0),pk (AI 3 x.fst 0),pk (Ag 3 x.kind 1),pk (Ag 3 x.kind 2),pk (Ar 3 x.kind 3),pa,pa]
         ·rw[show Bm x=false by unfold Bm;simp[h1,h2,h3,h4,hq,hf,k1,k2,k3] <;> decide]
          exact sr 76 [po (AH x.node true h1),pa,po (AH x.fst true h2),pa,po (AH x.nxt true h3),pa,pk (Ai 3 x.cost (-288230376151711744)),pk (Au 3 x.cost 288230376151711744),po (Cp (p:=x.q) (c:=c) (k:=k) x.q.num.sign rfl hk),pk (Ao 3 x.q.num.sign 0),pk (AI 3 x.fst 0),pk (Ag 3 x.kind 1),pk (Ag 3 x.kind 2),pk (Ag 3 x.kind 3)]
     ·by_cases hf : x.fst = 0
      ·by_cases hn : x.nxt = 0
       ·by_cases k1:x.kind=1
        ·by_cases hz:x.cost=0
         ·rw[show Bm x=true by unfold Bm;simp[h1,h2,h3,h4,hq,hf,hn,k1,hz] <;> decide]
          exact sr 76 [po (AH x.node true h1),pa,po (AH x.fst true h2),pa,po (AH x.nxt true h3),pa,pk (Ai 3 x.cost (-288230376151711744)),pk (Au 3 x.cost 288230376151711744),po (Cp (p:=x.q) (c:=c) (k:=k) x.q.num.sign rfl hk),pk (AI 3 x.q.num.sign 0),pk (Ao 3 x.fst 0),pk (Ao 3 x.nxt 0),pk (Ar 3 x.kind 1),pa,pk (Ar 3 x.cost 0)]
         ·rw[show Bm x=false by unfold Bm;simp[h1,h2,h3,h4,hq,hf,hn,k1,hz] <;> decide]
          exact sr 76 [po (AH x.node true h1),pa,po (AH x.fst true h2),pa,po (AH x.nxt true h3),pa,pk (Ai 3 x.cost (-288230376151711744)),pk (Au 3 x.cost 288230376151711744),po (Cp (p:=x.q) (c:=c) (k:=k) x.q.num.sign rfl hk),pk (AI 3 x.q.num.sign 0),pk (Ao 3 x.fst 0),pk (Ao 3 x.nxt 0),pk (Ar 3 x.kind 1),pa,pk (Ag 3 x.cost 0)]
        ·by_cases k2:x.kind=2
         ·rw[show Bm x=false by unfold Bm;simp[h1,h2,h3,h4,hq,hf,hn,k1,k2] <;> decide]
          exact sr 76 [po (AH x.node true h1),pa,po (AH x.fst true h2),pa,po (AH x.nxt true h3),pa,pk (Ai 3 x.cost (-288230376151711744)),pk (Au 3 x.cost 288230376151711744),po (Cp (p:=x.q) (c:=c) (k:=k) x.q.num.sign rfl hk),pk (AI 3 x.q.num.sign 0),pk (Ao 3 x.fst 0),pk (Ao 3 x.nxt 0),pk (Ag 3 x.kind 1),pk (Ar 3 x.kind 2),pa]
         ·by_cases k3:x.kind=3
          ·rw[show Bm x=false by unfold Bm;simp[h1,h2,h3,h4,hq,hf,hn,k1,k2,k3] <;> decide]
           exact sr 76 [po (AH x.node true h1),pa,po (AH x.fst true h2),pa,po (AH x.nxt true h3),pa,pk (Ai 3 x.cost (-288230376151711744)),pk (Au 3 x.cost 288230376151711744),po (Cp (p:=x.q) (c:=c) (k:=k) x.q.num.sign rfl hk),pk (AI 3 x.q.num.sign 0),pk (Ao 3 x.fst 0),pk (Ao 3 x.nxt 0),pk (Ag 3 x.kind 1),pk (Ag 3 x.kind 2),pk (Ar 3 x.kind 3),pa]
          ·rw[show Bm x=false by unfold Bm;simp[h1,h2,h3,h4,hq,hf,hn,k1,k2,k3] <;> decide]
           exact sr 76 [po (AH x.node true h1),pa,po (AH x.fst true h2),pa,po (AH x.nxt true h3),pa,pk (Ai 3 x.cost (-288230376151711744)),pk (Au 3 x.cost 288230376151711744),po (Cp (p:=x.q) (c:=c) (k:=k) x.q.num.sign rfl hk),pk (AI 3 x.q.num.sign 0),pk (Ao 3 x.fst 0),pk (Ao 3 x.nxt 0),pk (Ag 3 x.kind 1),pk (Ag 3 x.kind 2),pk (Ag 3 x.kind 3)]
       ·by_cases k1:x.kind=1
        ·rw[show Bm x=false by unfold Bm;simp[h1,h2,h3,h4,hq,hf,hn,k1] <;> decide]
         exact sr 76 [po (AH x.node true h1),pa,po (AH x.fst true h2),pa,po (AH x.nxt true h3),pa,pk (Ai 3 x.cost (-288230376151711744)),pk (Au 3 x.cost 288230376151711744),po (Cp (p:=x.q) (c:=c) (k:=k) x.q.num.sign rfl hk),pk (AI 3 x.q.num.sign 0),pk (Ao 3 x.fst 0),pk (AI 3 x.nxt 0),pk (Ar 3 x.kind 1),pa]
        ·by_cases k2:x.kind=2
         ·rw[show Bm x=false by unfold Bm;simp[h1,h2,h3,h4,hq,hf,hn,k1,k2] <;> decide]
          exact sr 76 [po (AH x.node true h1),pa,po (AH x.fst true h2),pa,po (AH x.nxt true h3),pa,pk (Ai 3 x.cost (-288230376151711744)),pk (Au 3 x.cost 288230376151711744),po (Cp (p:=x.q) (c:=c) (k:=k) x.q.num.sign rfl hk),pk (AI 3 x.q.num.sign 0),pk (Ao 3 x.fst 0),pk (AI 3 x.nxt 0),pk (Ag 3 x.kind 1),pk (Ar 3 x.kind 2),pa]
         ·by_cases k3:x.kind=3
          ·rw[show Bm x=false by unfold Bm;simp[h1,h2,h3,h4,hq,hf,hn,k1,k2,k3] <;> decide]
           exact sr 76 [po (AH x.node true h1),pa,po (AH x.fst true h2),pa,po (AH x.nxt true h3),pa,pk (Ai 3 x.cost (-288230376151711744)),pk (Au 3 x.cost 288230376151711744),po (Cp (p:=x.q) (c:=c) (k:=k) x.q.num.sign rfl hk),pk (AI 3 x.q.num.sign 0),pk (Ao 3 x.fst 0),pk (AI 3 x.nxt 0),pk (Ag 3 x.kind 1),pk (Ag 3 x.kind 2),pk (Ar 3 x.kind 3),pa]
          ·rw[show Bm x=false by unfold Bm;simp[h1,h2,h3,h4,hq,hf,hn,k1,k2,k3] <;> decide]
           exact sr 76 [po (AH x.node true h1),pa,po (AH x.fst true h2),pa,po (AH x.nxt true h3),pa,pk (Ai 3 x.cost (-288230376151711744)),pk (Au 3 x.cost 288230376151711744),po (Cp (p:=x.q) (c:=c) (k:=k) x.q.num.sign rfl hk),pk (AI 3 x.q.num.sign 0),pk (Ao 3 x.fst 0),pk (AI 3 x.nxt 0),pk (Ag 3 x.kind 1),pk (Ag 3 x.kind 2),pk (Ag 3 x.kind 3)]
      ·by_cases k1:x.kind=1
       ·rw[show Bm x=false by unfold Bm;simp[h1,h2,h3,h4,hq,hf,k1] <;> decide]
        exact sr 76 [po (AH x.node true h1),pa,po (AH x.fst true h2),pa,po (AH x.nxt true h3),pa,pk (Ai 3 x.cost (-288230376151711744)),pk (Au 3 x.cost 288230376151711744),po (Cp (p:=x.q) (c:=c) (k:=k) x.q.num.sign rfl hk),pk (AI 3 x.q.num.sign 0),pk (AI 3 x.fst 0),pk (Ar 3 x.kind 1),pa]
       ·by_cases k2:x.kind=2
        ·rw[show Bm x=false by unfold Bm;simp[h1,h2,h3,h4,hq,hf,k1,k2] <;> decide]
         exact sr 76 [po (AH x.node true h1),pa,po (AH x.fst true h2),pa,po (AH x.nxt true h3),pa,pk (Ai 3 x.cost (-288230376151711744)),pk (Au 3 x.cost 288230376151711744),po (Cp (p:=x.q) (c:=c) (k:=k) x.q.num.sign rfl hk),pk (AI 3 x.q.num.sign 0),pk (AI 3 x.fst 0),pk (Ag 3 x.kind 1),pk (Ar 3 x.kind 2),pa]
        ·by_cases k3:x.kind=3
         ·rw[show Bm x=false by unfold Bm;simp[h1,h2,h3,h4,hq,hf,k1,k2,k3] <;> decide]
          exact sr 76 [po (AH x.node true h1),pa,po (AH x.fst true h2),pa,po (AH x.nxt true h3),pa,pk (Ai 3 x.cost (-288230376151711744)),pk (Au 3 x.cost 288230376151711744),po (Cp (p:=x.q) (c:=c) (k:=k) x.q.num.sign rfl hk),pk (AI 3 x.q.num.sign 0),pk (AI 3 x.fst 0),pk (Ag 3 x.kind 1),pk (Ag 3 x.kind 2),pk (Ar 3 x.kind 3),pa]
         ·rw[show Bm x=false by unfold Bm;simp[h1,h2,h3,h4,hq,hf,k1,k2,k3] <;> decide]
          exact sr 76 [po (AH x.node true h1),pa,po (AH x.fst true h2),pa,po (AH x.nxt true h3),pa,pk (Ai 3 x.cost (-288230376151711744)),pk (Au 3 x.cost 288230376151711744),po (Cp (p:=x.q) (c:=c) (k:=k) x.q.num.sign rfl hk),pk (AI 3 x.q.num.sign 0),pk (AI 3 x.fst 0),pk (Ag 3 x.kind 1),pk (Ag 3 x.kind 2),pk (Ag 3 x.kind 3)]
theorem AdR (q:Rat)(hk:k≤1000):Sp Tryz.prog DG 37 [fc c k q] (tS (Co q)):=RG (fun n d a e=>by subst e;exact Acz a hk) (by omega)
theorem AcM {n:Nat}{q:Rat}(hn:n≤1099511627776)(hw:Sp Tryz.prog DG 35 [chK c k ⟨1,(n:Int),q,0,0,0⟩] (lb true))(s:List Nat)(hs8:B8 s)(hf:Sp Tryz.prog DG 37 [fc c k q] (tS s)):(s.length≤400→Sp Tryz.prog DG 13 [chK c k ⟨1,(n:Int),q,0,0,0⟩] (.tu [.t (bI (Ad 1++(Ad n)++(Ad s.length++s))),ci 0]))∧(400 < s.length→Sp Tryz.prog DG 13 [chK c k ⟨1,(n:Int),q,0,0,0⟩] (.tu [.one (.z),ci 10])):=by
 have hn':n≤4611686018427387904:=by omega
 have h1:=AM (n:=1) (by omega)
 have h2:=AM hn';constructor
 ·intro hl
  exact sr 44 [po (hw),pa,pom [6] (He 1 (by omega)),pom [6,9] (E0 (Ad 1) (by first | omega | (simp;omega)) n hn'),pa,po (hf),pk (B6 9 3 s),pk (Au 3 (s.length:Int) 400),pom [6,12] (Vh (Ad 1++(Ad n)) (by simp;omega) hs8 (by omega)),⟨.part ([.sl 25,.i 0]) 0 1 [.sl 25],rfl⟩,⟨.part ([.sl 25,.i 0]) 1 1 [.i 0],rfl⟩,pm (AX (I:=DG) (t:=2) (k:=25) (E:=[(0,.cv (.ag [.i 1,.i (n:Int),.b (.it (fF c k q)),.i 0,.i 0,.i 0])),(1,.p 0 0),(3,.i 0),(6,.cv (.ag [.i 1,.i (n:Int),.b (.it (fF c k q)),.i 0,.i 0,.i 0])),(7,.o true),(8,.o false),(4,.p 6 0),(9,.p 0 0),(10,.i 1),(11,.tu []),(12,.p 0 1),(13,.i (n:Int)),(14,.tu []),(15,.p 0 0),(16,.i 1),(18,.o true),(17,.o true),(19,.p 0 2),(20,.cv (.ag [.b (.it (fF c k q))])),(21,.cv (.one (.b (.lit (.string (AR s)))))),(5,.cv (.one (.b (.lit (.string (AR s)))))),(22,.cv (.one (.b (.lit (.string (AR s)))))),(23,.i (s.length:Int)),(24,.o false),(25,.cv (.one (.b (.lit (.string (AR s)))))),(26,.tu []),(40,.p 6 0),(41,.s 25),(42,.p 6 1),(43,.i 0)]) (B:=[(0,some ⟨28,none,[.i 1,.i (n:Int),.b (.it (fF c k q)),.i 0,.i 0,.i 0]⟩),(6,some ⟨67,none,[.sl 25,.i 0]⟩)]) (nx:=32) (T:=5) (sz:=1) (n:=((Ad 1++(Ad n)++(Ad s.length++s)).length)) ((Ad 1++(Ad n)++(Ad s.length++s)).map Ah) rfl (by simp) Bp rfl)]
 ·intro hl
  exact sr 44 [po (hw),pa,pom [6] (He 1 (by omega)),pom [6,9] (E0 (Ad 1) (by first | omega | (simp;omega)) n hn'),pa,po (hf),pk (B6 9 3 s),pk (BY 3 (s.length:Int) 400)]
theorem AcL {n a b:Nat}{q:Rat}(hn:n≤1099511627776)(ha:a≤1099511627776)(hb:b≤1099511627776)(hw:Sp Tryz.prog DG 35 [chK c k ⟨2,(n:Int),q,(a:Int),(b:Int),0⟩] (lb true)):Sp Tryz.prog DG 13 [chK c k ⟨2,(n:Int),q,(a:Int),(b:Int),0⟩] (.tu [.t (bI (Ad 2++(Ad n)++(Ad a)++(Ad b))),ci 0]):=by
 have hn':n≤4611686018427387904:=by omega
 have ha':a≤4611686018427387904:=by omega
 have hb':b≤4611686018427387904:=by omega
 have h1:=AM (n:=2) (by omega)
 have h2:=AM hn';have h3:=AM ha';exact sr 44 [po (hw),pa,pom [6] (He 2 (by omega)),pom [6,9] (E0 (Ad 2) (by first | omega | (simp;omega)) n hn'),pa,pa,pom [6,12] (E0 (Ad 2++(Ad n)) (by first | omega | (simp;omega)) a ha'),pom [6,21] (E0 (Ad 2++(Ad n)++(Ad a)) (by first | omega | (simp;omega)) b hb'),⟨.part ([.sl 24,.i 0]) 0 1 [.sl 24],rfl⟩,⟨.part ([.sl 24,.i 0]) 1 1 [.i 0],rfl⟩,pm (AX (I:=DG) (t:=2) (k:=24) (E:=[(0,.cv (.ag [.i 2,.i (n:Int),.b (.it (fF c k q)),.i (a:Int),.i (b:Int),.i 0])),(1,.p 0 0),(3,.i 0),(6,.cv (.ag [.i 2,.i (n:Int),.b (.it (fF c k q)),.i (a:Int),.i (b:Int),.i 0])),(7,.o true),(8,.o false),(4,.p 6 0),(9,.p 0 0),(10,.i 2),(11,.tu []),(12,.p 0 1),(13,.i (n:Int)),(14,.tu []),(15,.p 0 0),(16,.i 2),(18,.o false),(17,.o false),(28,.o true),(27,.o true),(29,.p 0 6),(30,.i (a:Int)),(31,.tu []),(32,.p 0 7),(33,.i (b:Int)),(34,.tu []),(40,.p 6 0),(41,.s 24),(42,.p 6 1),(43,.i 0)]) (B:=[(0,some ⟨28,none,[.i 2,.i (n:Int),.b (.it (fF c k q)),.i (a:Int),.i (b:Int),.i 0]⟩),(6,some ⟨67,none,[.sl 24,.i 0]⟩)]) (nx:=31) (T:=5) (sz:=1) (n:=((Ad 2++(Ad n)++(Ad a)++(Ad b)).length)) ((Ad 2++(Ad n)++(Ad a)++(Ad b)).map Ah) rfl (by simp) Bp rfl)]
theorem AcK {n:Nat}{z:Int}{q:Rat}(hn:n≤1099511627776)(hz:BG z=true)(hw:Sp Tryz.prog DG 35 [chK c k ⟨3,(n:Int),q,0,0,z⟩] (lb true)):Sp Tryz.prog DG 13 [chK c k ⟨3,(n:Int),q,0,0,z⟩] (.tu [.t (bI (Ad 3++(Ad n)++(Ad (zig z)))),ci 0]):=by
 have hn':n≤4611686018427387904:=by omega
 have h1:=AM (n:=3) (by omega)
 have h2:=AM hn';exact sr 44 [po (hw),pa,pom [6] (He 3 (by omega)),pom [6,9] (E0 (Ad 3) (by first | omega | (simp;omega)) n hn'),pa,pa,pa,pom [6,12] (Xf (Ad 3++(Ad n)) (by simp;omega) z hz),⟨.part ([.sl 23,.i 0]) 0 1 [.sl 23],rfl⟩,⟨.part ([.sl 23,.i 0]) 1 1 [.i 0],rfl⟩,pm (AX (I:=DG) (t:=2) (k:=23) (E:=[(0,.cv (.ag [.i 3,.i (n:Int),.b (.it (fF c k q)),.i 0,.i 0,.i z])),(1,.p 0 0),(3,.i 0),(6,.cv (.ag [.i 3,.i (n:Int),.b (.it (fF c k q)),.i 0,.i 0,.i z])),(7,.o true),(8,.o false),(4,.p 6 0),(9,.p 0 0),(10,.i 3),(11,.tu []),(12,.p 0 1),(13,.i (n:Int)),(14,.tu []),(15,.p 0 0),(16,.i 3),(18,.o false),(17,.o false),(28,.o false),(27,.o false),(36,.o true),(35,.o true),(37,.p 0 8),(38,.i z),(39,.tu []),(40,.p 6 0),(41,.s 23),(42,.p 6 1),(43,.i 0)]) (B:=[(0,some ⟨28,none,[.i 3,.i (n:Int),.b (.it (fF c k q)),.i 0,.i 0,.i z]⟩),(6,some ⟨67,none,[.sl 23,.i 0]⟩)]) (nx:=30) (T:=5) (sz:=1) (n:=((Ad 3++(Ad n)++(Ad (zig z))).length)) ((Ad 3++(Ad n)++(Ad (zig z))).map Ah) rfl (by simp) Bp rfl)]
theorem AcN (x:Ch)(hw:Sp Tryz.prog DG 35 [chK c k x] (lb false)):Sp Tryz.prog DG 13 [chK c k x] (.tu [.one (.z),ci 5]) :=
 sr 44 [po (hw),pa]
theorem Wa {f:FuncId}{args:List CT}{e:Int}(h:Sp Tryz.prog I f args (.tu [.one (.z),ci e])):Sp Tryz.prog I f args (.tu [.t (bI []),ci e]):=h.rs (QG ⟨XLe.one PS,CTle.refl,trivial⟩)
theorem Mt {x:Ch}(h:Bm x=true) : ∃ n:Nat,n≤1099511627776∧x.node=(n:Int)∧((x.kind=1∧x.fst=0∧x.nxt=0∧x.cost=0)∨(x.kind=2∧x.q.num.sign=0∧x.cost=0 ∧ ∃ a b:Nat,a≤1099511627776∧b≤1099511627776∧x.fst=(a:Int)∧x.nxt=(b:Int))∨(x.kind=3∧x.q.num.sign=0∧x.fst=0∧x.nxt=0∧n=0∧BG x.cost=true)):=by
 unfold Bm at h;simp only[Bool.and_eq_true] at h;obtain ⟨⟨⟨⟨h1,h2⟩,h3⟩,h4⟩,h5⟩:=h;have g1:=PQ h1;have g2:=PQ h2;have g3:=PQ h3;refine ⟨x.node.toNat,by omega,by omega,?_⟩
 by_cases k1:x.kind=1
 ·rw[if_pos k1] at h5
  simp at h5;exact .inl ⟨k1,h5.1.1,h5.1.2,h5.2⟩
 ·rw[if_neg k1] at h5
  by_cases k2:x.kind=2
  ·rw[if_pos k2] at h5
   simp at h5;exact .inr (.inl ⟨k2,by rw[h5.1];rfl,h5.2,x.fst.toNat,x.nxt.toNat,by omega,by omega,by omega,by omega⟩)
  ·rw[if_neg k2] at h5
   by_cases k3:x.kind=3
   ·rw[if_pos k3] at h5
    simp at h5;exact .inr (.inr ⟨k3,by rw[h5.1.1.1];rfl,h5.1.1.2,h5.1.2,by omega,h4⟩)
   ·rw[if_neg k3] at h5;cases h5
theorem YD (x:Ch)(hk:k≤1000):Sp Tryz.prog DG 13 [chK c k x] (.tu [.t (bI (Bs x).1),ci (Bs x).2]):=by
 have hw:=AdJ (I:=DG) (c:=c) (k:=k) x (by omega)
 unfold Bs;cases hb:Bm x with
 | false =>
  rw[hb] at hw;rw[if_pos rfl];exact Wa (AcN x hw)
 | true =>
  rw[hb] at hw;rw[if_neg (by decide)]
  obtain ⟨n,hn,e1,h⟩:=Mt hb;obtain ⟨kind,node,q,fst,nxt,cost⟩:=x;simp only at e1 h;subst e1;rcases h with ⟨rfl,rfl,rfl,rfl⟩ | ⟨rfl,hs,rfl,a,b,ha,hb',rfl,rfl⟩ | ⟨rfl,hs,rfl,rfl,rfl,hz⟩
  ·obtain ⟨p1,p2⟩:=AcM hn hw (Co q) (Mi q) (AdR q hk)
   by_cases hl:400 < (Co q).length
   ·rw[if_pos ⟨rfl,hl⟩]
    exact Wa (p2 hl)
   ·rw[if_neg (fun h=>hl h.2)]
    exact p1 (by omega)
  ·rw[if_neg (fun h=>by cases h.1)]
   have:=AcL hn ha hb' hw;rw[List.append_assoc] at this;exact this
  ·rw[if_neg (fun h=>by cases h.1)]
   exact AcK hn hz hw
end
def VR (l:List Nat)(i:Nat):Int:=if 48≤l.getD i 0∧l.getD i 0≤57 then 0 else 1
theorem Us {l:List Nat}:AQ (VR l) l.length 0=0↔okD l:=by
 constructor
 ·intro h
  refine PM fun k hk => ?_
  have:=Br.1 h k (Nat.zero_le _) (by omega)
  unfold VR at this;split at this
  ·assumption
  ·omega
 ·intro h
  refine Br.2 fun k _ hk => ?_
  unfold VR;rw[if_pos (h.getD (by omega))]
theorem b0:B8 []:=fun x hx=>by cases hx
theorem JV {l:List Nat}(h:B8 l):B8 (Be l):=by unfold Be;split;exact h.drop 1;exact h
theorem Dc (l:List Nat):(Be l).length≤l.length:=by unfold Be;split <;> simp
section
variable {I:WInv}
def VP (part:List Nat)(neg:Bool)(z i:Int):Go.Proofs.YtdgbealknnmkoaaGreatDoor.St:=⟨[(1,.cv (.one (.b (.lit (.string (AR part)))))),(4,.p 0 0),(6,.o neg),(7,.p 11 0),(36,.i ((part.length:Nat):Int)),(37,.i i)],[(0,some ⟨26,none,[.o false,.z,.o false,.z]⟩),(11,some ⟨24,none,[.b (.it (IP (cP z)))]⟩)],50⟩
theorem PJ (part:List Nat)(neg:Bool)(z:Int)(hpb:B8 part)(hl:part.length≤1000):(okD part→LoopTr Tryz.prog I 81 (AK Tryz.prog 103 0) (VP part neg z ((0:Nat):Int)) (.exit 0) ⟨[(1,.cv (.one (.b (.lit (.string (AR part)))))),(4,.p 0 0),(6,.o neg),(7,.p 11 0)],[(0,some ⟨26,none,[.o false,.z,.o false,.z]⟩),(11,some ⟨24,none,[.b (.it (IP (cP z)))]⟩)],50⟩)∧(¬ okD part→LoopTr Tryz.prog I 81 (AK Tryz.prog 103 0) (VP part neg z ((0:Nat):Int)) .ret ⟨[(4,.p 0 0),(5,.i 1)],[(0,some ⟨26,none,[.o false,.z,.o false,.z]⟩)],50⟩):=by
 have loop:=CM (P:=Tryz.prog) (I:=I) (nt:=81) (c:=AK Tryz.prog 103 0) (e:=0) (b0:=⟨[(1,.cv (.one (.b (.lit (.string (AR part)))))),(4,.p 0 0),(6,.o neg),(7,.p 11 0)],[(0,some ⟨26,none,[.o false,.z,.o false,.z]⟩),(11,some ⟨24,none,[.b (.it (IP (cP z)))]⟩)],50⟩) (VR part) part.length (fun i=>VP part neg z (i:Int)) (fun _=>⟨[(4,.p 0 0),(5,.i 1)],[(0,some ⟨26,none,[.o false,.z,.o false,.z]⟩)],50⟩) (fun i hi hc => ?_) ?_ (fun i hi hc => ?_)
 ·exact ⟨fun h=>loop.1 (Us.2 h),fun h=>loop.2 fun h'=>h (Us.1 h')⟩
 ·unfold VR at hc
  split at hc
  ·rename_i hh
   have h1:decide (((part.getD i 0:Nat):Int) < 48)=false:=decide_eq_false (by omega)
   have h2:decide ((57:Int) < ((part.getD i 0:Nat):Int))=false:=decide_eq_false (by omega)
   exact rr [pk (Ak 3 (i:Int) ((part.length:Nat):Int)),pk (M9 9 part i _ rfl hi hpb),pk (TE 5 ((part.getD i 0:Nat):Int) 48 false h1),pk (M9 9 part i _ rfl hi hpb),pk (Z4 5 ((part.getD i 0:Nat):Int) 57 false h2),pk (Ay 3 (i:Int) 1 ⟨by omega,by omega⟩)]
  ·omega
 ·exact rr [pk (Ai 3 ((part.length:Nat):Int) ((part.length:Nat):Int))]
 ·unfold VR at hc
  split at hc
  ·omega
  ·by_cases hh:part.getD i 0 < 48
   ·have h1:decide (((part.getD i 0:Nat):Int) < 48)=true:=decide_eq_true (by omega)
    exact rr [pk (Ak 3 (i:Int) ((part.length:Nat):Int)),pk (M9 9 part i _ rfl hi hpb),pk (TE 5 ((part.getD i 0:Nat):Int) 48 true h1)]
   ·have h1:decide (((part.getD i 0:Nat):Int) < 48)=false:=decide_eq_false (by omega)
    have h2:decide ((57:Int) < ((part.getD i 0:Nat):Int))=true:=decide_eq_true (by omega)
    exact rr [pk (Ak 3 (i:Int) ((part.length:Nat):Int)),pk (M9 9 part i _ rfl hi hpb),pk (TE 5 ((part.getD i 0:Nat):Int) 48 false h1),pk (M9 9 part i _ rfl hi hpb),pk (Z4 5 ((part.getD i 0:Nat):Int) 57 true h2)]
theorem Ac1 {whole part:List Nat}(hw:B8 whole)(hpb:B8 part)(hwl:whole.length≤400)(hl:part.length≤400)(h : ¬ (H8 (Be whole)∧part≠[]∧okD part)):Sp Tryz.prog I 103 [cS whole,cS part] (.tu [frz,ci 1]):=by
 have hbl:=Dc whole;have hh:=Yz (I:=I) hw;by_cases D:H8 (Be whole)
 ·have pp:=CE (I:=I) (JV hw) (Hp D (by omega)) (by omega)
  have lz:=DA D.2.1 (by omega)
  obtain ⟨z,hz⟩ : ∃ z:Int,((nd (Be whole):Nat):Int)=z:=⟨_,rfl⟩;have hs:decide (z.sign < 0)=false:=decide_eq_false fun hh=>by have:=Int.sign_neg_iff.1 hh;omega
  rw[hz] at pp lz;have sg:=BL (I:=I) z.sign (Bj lz (by omega)) rfl
  generalize BV whole=neg at *;by_cases h0:part=[]
  ·have h0':part.length=0:=by rw[h0];rfl
   cases neg <;> exact sr 81 [po hh,po (Es hw),po pp,po sg,pk (CK 3 z.sign 0 false hs),pk (B6 9 3 part),pk (Ar 3 ((part.length:Nat):Int) 0)]
  ·have h0':part.length≠0:=fun hh=>h0 (List.eq_nil_of_length_eq_zero hh)
   cases neg
   ·have lo:=(PJ (I:=I) part false z hpb (by omega)).2 fun hh=>h ⟨D,h0,hh⟩
    unfold VP at lo;exact sr 81 [po hh,po (Es hw),po pp,po sg,pk (CK 3 z.sign 0 false hs),pk (B6 9 3 part),pk (Ag 3 ((part.length:Nat):Int) 0),pk (B6 9 3 part),pl lo]
   ·have lo:=(PJ (I:=I) part true z hpb (by omega)).2 fun hh=>h ⟨D,h0,hh⟩
    unfold VP at lo;exact sr 81 [po hh,po (Es hw),po pp,po sg,pk (CK 3 z.sign 0 false hs),pk (B6 9 3 part),pk (Ag 3 ((part.length:Nat):Int) 0),pk (B6 9 3 part),pl lo]
 ·by_cases G:Da (BV (Be whole)) (Be (Be whole))
  ·have pp:=CE (I:=I) (JV hw) (JU G (by omega)) (by omega)
   have lz:Lim 84 (sgn (BV (Be whole)) (nd (Be (Be whole)))):=(DA G.1.2.1 (by have:=Dc (Be whole);omega)).sgn _
   have hneg:=RN G D;generalize sgn (BV (Be whole)) (nd (Be (Be whole)))=z at *;have hs:decide (z.sign < 0)=true:=decide_eq_true (Int.sign_neg_iff.2 hneg);have sg:=BL (I:=I) z.sign (Bj lz (by omega)) rfl
   generalize BV whole=neg at *;cases neg <;> exact sr 81 [po hh,po (Es hw),po pp,po sg,pk (CK 3 z.sign 0 true hs)]
  ·have pp:=CE (I:=I) (JV hw) (PK G (by omega)) (by omega)
   generalize BV whole=neg at *;cases neg <;> exact sr 81 [po hh,po (Es hw),po pp]
theorem Aao {whole part:List Nat}(hw:B8 whole)(hwl:whole.length+part.length≤399)(D:H8 (Be whole))(hp0:part≠[])(hp:okD part):Sp Tryz.prog I 103 [cS whole,cS part] (.tu [frc (Rat.divInt (sgn (BV whole) (nd (Be whole++part))) ((10 ^ part.length:Nat):Int)),ci 0]):=by
 have hbl:=Dc whole;have hh:=Yz (I:=I) hw;have hpb:=hp.b8;have hp0':part.length≠0:=fun hh=>hp0 (List.eq_nil_of_length_eq_zero hh)
 have pp:=CE (I:=I) (JV hw) (Hp D (by omega)) (by omega)
 have lz:=DA D.2.1 (by omega)
 have lpt:=DA hp (by omega)
 have lN:=DA (D.2.1.app hp) (by rw[List.length_append];omega)
 have eN:((nd (Be whole++part):Nat):Int)=((nd (Be whole):Nat):Int)*((10 ^ part.length:Nat):Int)+((nd part:Nat):Int):=by
  rw[KX,Int.natCast_add,Int.natCast_mul]
 obtain ⟨M,hM⟩ : ∃ M,nd (Be whole++part)=M:=⟨_,rfl⟩;rw[hM] at eN lN ⊢;obtain ⟨z,hz⟩ : ∃ z:Int,((nd (Be whole):Nat):Int)=z:=⟨_,rfl⟩;have hs:decide (z.sign < 0)=false:=decide_eq_false fun hh=>by have:=Int.sign_neg_iff.1 hh;omega
 rw[hz] at pp lz eN;have sg:=BL (I:=I) z.sign (Bj lz (by omega)) rfl
 have hrb:B8 (part.dropWhile (· == 48)):=fun x hx=>hpb x ((List.dropWhile_sublist _).subset hx)
 have hrl:(part.dropWhile (· == 48)).length≤part.length:=(List.dropWhile_sublist _).length_le;have rp:=Ad2 (I:=I) part.length (by omega)
 have ps:Sp Tryz.prog I 101 [cS ([49]++List.replicate part.length 48)] (.tu [.ag (ic ((10 ^ part.length:Nat):Int)),ci 0]):=by
  have:=CE (I:=I) (Sd part.length).2.1.b8 (Hp (Sd part.length) (by simp;omega)) (by simp;omega)
  rw[Ac6] at this;exact this
 have lt:=TU (k:=part.length) (by omega)
 have tn:=AbT part.length;generalize ((10 ^ part.length:Nat):Int)=t at *;have nt:=Bj lt (by omega)
 have mu:=Fs (I:=I) (Bj lz (by omega)) nt
 have lm:=lz.mul lt;have lo0:=fun b=>(PJ (I:=I) part b z hpb (by omega)).1 hp
 unfold VP at lo0;have ng:=Gd (I:=I) (Bj lN (by omega))
 have r0:=Db (I:=I) (Bj lN (by omega)) nt (lN.mono (by omega)) (lt.mono (by omega)) tn
 have r1:=Db (I:=I) (Bj lN.neg (by omega)) nt (lN.neg.mono (by omega)) (lt.mono (by omega)) tn
 generalize BV whole=neg at *;by_cases hr:part.dropWhile (· == 48)=[]
 ·have e0:nd part=0:=by rw[←Ry,hr];rfl
  have ad:=J7 (I:=I) (Bj lm (by omega)) PN
  rw[show z*t+0=(M:Int) by rw[eN,e0];simp] at ad
  cases neg
  ·have lo:=lo0 false
   have re:=r0;exact sr 81 [po hh,po (Es hw),po pp,po sg,pk (CK 3 z.sign 0 false hs),pk (B6 9 3 part),pk (Ag 3 ((part.length:Nat):Int) 0),pk (B6 9 3 part),pl lo,po (LT hpb),pk (KD 9 (part.dropWhile (· == 48)) [] false (decide_eq_true hr) hrb b0),pk (B6 9 3 part),po rp,pk (G1 9 [49] (List.replicate part.length 48) (by simp;omega)),po ps,po mu,po ad,po re]
  ·have lo:=lo0 true
   have re:=r1;exact sr 81 [po hh,po (Es hw),po pp,po sg,pk (CK 3 z.sign 0 false hs),pk (B6 9 3 part),pk (Ag 3 ((part.length:Nat):Int) 0),pk (B6 9 3 part),pl lo,po (LT hpb),pk (KD 9 (part.dropWhile (· == 48)) [] false (decide_eq_true hr) hrb b0),pk (B6 9 3 part),po rp,pk (G1 9 [49] (List.replicate part.length 48) (by simp;omega)),po ps,po mu,po ad,po ng,po re]
 ·have pr:=CE (I:=I) hrb (Hp (T6 hp hr) (by omega)) (by omega)
  rw[Ry] at pr;have ad:=J7 (I:=I) (Bj lm (by omega)) (Bj lpt (by omega))
  rw[←eN] at ad;cases neg
  ·have lo:=lo0 false
   have re:=r0;exact sr 81 [po hh,po (Es hw),po pp,po sg,pk (CK 3 z.sign 0 false hs),pk (B6 9 3 part),pk (Ag 3 ((part.length:Nat):Int) 0),pk (B6 9 3 part),pl lo,po (LT hpb),pk (KD 9 (part.dropWhile (· == 48)) [] true (decide_eq_false hr) hrb b0),po pr,pk (B6 9 3 part),po rp,pk (G1 9 [49] (List.replicate part.length 48) (by simp;omega)),po ps,po mu,po ad,po re]
  ·have lo:=lo0 true
   have re:=r1;exact sr 81 [po hh,po (Es hw),po pp,po sg,pk (CK 3 z.sign 0 false hs),pk (B6 9 3 part),pk (Ag 3 ((part.length:Nat):Int) 0),pk (B6 9 3 part),pl lo,po (LT hpb),pk (KD 9 (part.dropWhile (· == 48)) [] true (decide_eq_false hr) hrb b0),po pr,pk (B6 9 3 part),po rp,pk (G1 9 [49] (List.replicate part.length 48) (by simp;omega)),po ps,po mu,po ad,po ng,po re]
theorem Rk {xs:List Nat}(h:400 < xs.length):Sp Tryz.prog I 49 [cS xs] (.tu [frz,ci 10]) :=
 sr 72 [pk (B6 9 3 xs),pk (BY 3 ((xs.length:Nat):Int) 400)]
theorem JR {xs:List Nat}{i:Nat}(hx:B8 xs)(hl:xs.length≤400)(hi:DI 47 xs=some i)(G:Da (BV (xs.take i)) (Be (xs.take i)))(D:H8 (xs.drop (i+1)))(h48:xs.drop (i+1)≠[48]):Sp Tryz.prog Aq 49 [cS xs] (.tu [frc (Rat.divInt (sgn (BV (xs.take i)) (nd (Be (xs.take i)))) ((nd (xs.drop (i+1)):Nat):Int)),ci 0]):=by
 have cs:=NF (c:=47) (by omega) hx (by omega) hi
 have l1:(xs.take i).length≤400:=by rw[List.length_take];omega
 have l2:(xs.drop (i+1)).length≤400:=by rw[List.length_drop];omega
 have pn:=CE (I:=Aq) (hx.take i) (JU G l1) (by omega)
 have pdd:=CE (I:=Aq) (hx.drop (i+1)) (Hp D l2) (by omega)
 have ln:Lim 84 (sgn (BV (xs.take i)) (nd (Be (xs.take i)))):=(DA G.1.2.1 (by have:=Dc (xs.take i);omega)).sgn _
 have ld:=DA D.2.1 (by omega)
 have hp:=Yf D h48;generalize sgn (BV (xs.take i)) (nd (Be (xs.take i)))=n at *;obtain ⟨d,hd⟩ : ∃ d:Int,((nd (xs.drop (i+1)):Nat):Int)=d:=⟨_,rfl⟩;have hd0:0 < d:=by omega
 rw[hd] at pdd ld ⊢;have sg:=BL (I:=Aq) 1 (Bj ld (by omega)) (Int.sign_eq_one_of_pos hd0)
 have re:=Db (I:=Aq) (Bj ln (by omega)) (Bj ld (by omega)) (ln.mono (by omega)) (ld.mono (by omega)) (by omega)
 exact sr 72 [pk (B6 9 3 xs),pk (Au 3 ((xs.length:Nat):Int) 400),po cs,po pn,po pdd,po sg,po re]
theorem Rj {xs:List Nat}{i:Nat}(hx:B8 xs)(hl:xs.length≤400)(hi:DI 47 xs=some i)(h : ¬ (Da (BV (xs.take i)) (Be (xs.take i))∧H8 (xs.drop (i+1))∧xs.drop (i+1)≠[48])):Sp Tryz.prog Aq 49 [cS xs] (.tu [frz,ci 1]):=by
 have cs:=NF (c:=47) (by omega) hx (by omega) hi
 have l1:(xs.take i).length≤400:=by rw[List.length_take];omega
 have l2:(xs.drop (i+1)).length≤400:=by rw[List.length_drop];omega
 by_cases G:Da (BV (xs.take i)) (Be (xs.take i))
 ·have pn:=CE (I:=Aq) (hx.take i) (JU G l1) (by omega)
  have le : ∀ d:Int,d≤0→d.sign≤0:=fun d hd=>by
   rcases Int.lt_or_eq_of_le hd with h1 | h1
   ·rw[Int.sign_eq_neg_one_of_neg h1];omega
   ·rw[h1];decide
  by_cases D:H8 (xs.drop (i+1))
  ·have e48:xs.drop (i+1)=[48]:=by
    by_cases h1:xs.drop (i+1)=[48]
    ·exact h1
    ·exact absurd ⟨G,D,h1⟩ h
   have pdd:=CE (I:=Aq) (hx.drop (i+1)) (Hp D l2) (by omega)
   rw[show ((nd (xs.drop (i+1)):Nat):Int)=0 by rw[e48];rfl] at pdd
   have sg:=BL (I:=Aq) 0 (Bj (GN 1) (by omega)) rfl
   exact sr 72 [pk (B6 9 3 xs),pk (Au 3 ((xs.length:Nat):Int) 400),po cs,po pn,po pdd,po sg]
  ·by_cases G2:Da (BV (xs.drop (i+1))) (Be (xs.drop (i+1)))
   ·have pdd:=CE (I:=Aq) (hx.drop (i+1)) (JU G2 l2) (by omega)
    have ld:Lim 84 (sgn (BV (xs.drop (i+1))) (nd (Be (xs.drop (i+1))))):=(DA G2.1.2.1 (by have:=Dc (xs.drop (i+1));omega)).sgn _
    have hneg:=RN G2 D;generalize sgn (BV (xs.drop (i+1))) (nd (Be (xs.drop (i+1))))=d at *;have sg:=BL (I:=Aq) (-1) (Bj ld (by omega)) (Int.sign_eq_neg_one_of_neg hneg)
    exact sr 72 [pk (B6 9 3 xs),pk (Au 3 ((xs.length:Nat):Int) 400),po cs,po pn,po pdd,po sg]
   ·have pdd:=CE (I:=Aq) (hx.drop (i+1)) (PK G2 l2) (by omega)
    exact sr 72 [pk (B6 9 3 xs),pk (Au 3 ((xs.length:Nat):Int) 400),po cs,po pn,po pdd]
 ·have pn:=CE (I:=Aq) (hx.take i) (PK G l1) (by omega)
  exact sr 72 [pk (B6 9 3 xs),pk (Au 3 ((xs.length:Nat):Int) 400),po cs,po pn]
theorem MX {xs:List Nat}{j:Nat}{r:CT}{code:Int}(hx:B8 xs)(hl:xs.length≤400)(hi:DI 47 xs=none)(hj:DI 46 xs=some j)(hr:(∃ q:Rat,r=frc q)∨r=frz)(pdr:Sp Tryz.prog Aq 103 [cS (xs.take j),cS (xs.drop (j+1))] (.tu [r,ci code])):Sp Tryz.prog Aq 49 [cS xs] (.tu [r,ci code]):=by
 have c1:=GU (c:=47) (by omega) hx (by omega) hi
 have c2:=NF (c:=46) (by omega) hx (by omega) hj
 rcases hr with ⟨q,rfl⟩ | rfl
 ·exact sr 72 [pk (B6 9 3 xs),pk (Au 3 ((xs.length:Nat):Int) 400),po c1,po c2,po pdr]
 ·exact sr 72 [pk (B6 9 3 xs),pk (Au 3 ((xs.length:Nat):Int) 400),po c1,po c2,po pdr]
theorem MW {xs:List Nat}(hx:B8 xs)(hl:xs.length≤400)(hi:DI 47 xs=none)(hj:DI 46 xs=none)(G:Da (BV xs) (Be xs)):Sp Tryz.prog Aq 49 [cS xs] (.tu [frc ((sgn (BV xs) (nd (Be xs)):Int):Rat),ci 0]):=by
 have c1:=GU (c:=47) (by omega) hx (by omega) hi
 have c2:=GU (c:=46) (by omega) hx (by omega) hj
 have pn:=CE (I:=Aq) hx (JU G hl) (by omega)
 have ln:Lim 84 (sgn (BV xs) (nd (Be xs))):=(DA G.1.2.1 (by have:=Dc xs;omega)).sgn _
 generalize sgn (BV xs) (nd (Be xs))=n at *;have fi:=Tr (I:=Aq) (Bj ln (by omega))
 exact sr 72 [pk (B6 9 3 xs),pk (Au 3 ((xs.length:Nat):Int) 400),po c1,po c2,po pn,po fi]
theorem Rl {xs:List Nat}(hx:B8 xs)(hl:xs.length≤400)(hi:DI 47 xs=none)(hj:DI 46 xs=none)(G : ¬ Da (BV xs) (Be xs)):Sp Tryz.prog Aq 49 [cS xs] (.tu [frz,ci 1]):=by
 have c1:=GU (c:=47) (by omega) hx (by omega) hi
 have c2:=GU (c:=46) (by omega) hx (by omega) hj
 have pn:=CE (I:=Aq) hx (PK G hl) (by omega)
 exact sr 72 [pk (B6 9 3 xs),pk (Au 3 ((xs.length:Nat):Int) 400),po c1,po c2,po pn]
end
section
variable {I:WInv}
theorem SS (q:Rat)(hl:(Co q).length≤400):Sp Tryz.prog Aq 49 [cS (Co q)] (.tu [frc q,ci 0]):=by
 have hx:=Mi q;by_cases h:q.den=1
 ·obtain ⟨h1,h2⟩:=Wq q h
  have e:Co q=Dd q.num:=by unfold Co;rw[if_pos h]
  have hp:=XW q.num (by rw[←e];exact hl)
  rw[←e] at hp;rcases hp with hp | hp | hp
  ·omega
  ·obtain ⟨_,G,_,hz⟩:=hp
   have:=MW hx hl h1 h2 G;rw[←hz] at this;have e2:((q.num:Int):Rat)=q:=(Aaj q.num).symm.trans (by
    have:=Cj q;rw[h] at this;exact this)
   rwa [e2] at this
  ·omega
 ·have hi:=Tv q h
  have e:Co q=Dd q.num++([47]++Dd (q.den:Int)):=by unfold Co;rw[if_neg h]
  have et:(Co q).take (Dd q.num).length=Dd q.num:=by rw[e];exact List.take_left
  have ed:(Co q).drop ((Dd q.num).length+1)=dec q.den:=by
   rw[e,←List.drop_drop,List.drop_left,←RU]
   rfl
  have hl2:=hl;rw[e,List.length_append] at hl2;have hp:=XW q.num (by omega)
  rcases hp with hp | hp | hp
  ·omega
  ·obtain ⟨_,G,_,hz⟩:=hp
   have hd0:=Kt q;have:=JR hx hl hi (by rw[et];exact G) (by rw[ed];exact Se q.den) (by
    rw[ed];intro h48;have h2:=Nj q.den;rw[h48] at h2;have h3:nd [48]=0:=rfl;omega)
   rw[et,ed,←hz,Nj,Cj] at this;exact this
  ·omega
end
abbrev rbx (xs:List Nat)(b:Bool):Ent:=⟨76,none,[.b (.it (bI xs)),.o b]⟩
def rst (xs:List Nat)(u e:Nat):List Nat:=if e=0 then xs.drop u else []
def bdd (bad:Bool)(e:Nat):Bool:=bad || !decide (e=0)
theorem Acm {xs:List Nat}(h:B8 xs)(u e:Nat):B8 (rst xs u e):=by unfold rst;split;exact h.drop u;exact fun x hx=>by cases hx
section
variable {I:WInv}{c:Bool}{k:Nat}
theorem SC (xs:List Nat)(bad:Bool)(u e:Nat)(h:e=0→u≤xs.length):SpM Tryz.prog I 97 [(0,some (rbx xs bad))] [.one (.ptr 0 0),ci (u:Int),ci (e:Int)] [(0,some (rbx (rst xs u e) (bdd bad e)))] (.tu []):=by
 unfold rst bdd;by_cases h0:e=0
 ·subst h0
  have hu:=h rfl;rw[if_pos rfl,show (bad || !decide (0=0))=bad by simp]
  exact sm 23 [pk (Ao 32 ((0:Nat):Int) 0),pk (Ea xs u _ rfl hu)]
 ·rw[if_neg h0,show (bad || !decide (e=0))=true by simp[h0]]
  exact sm 23 [pk (AI 32 (e:Int) 0),⟨.upd [.b (.it (slI 1 ((xs).map (Ah)))),.o bad] 1 [.o true] [.b (.it (slI 1 ((xs).map (Ah)))),.o true],rfl⟩,⟨.upd [.b (.it (slI 1 ((xs).map (Ah)))),.o true] 0 [.z] [.z,.o true],rfl⟩,pm ((show Leads I _ ⟨[],[(0,some ⟨76,none,[.z,.o true]⟩)],13⟩ ⟨[],[(0,some (rbx [] true))],13⟩ from AL [] trivial ⟨rfl,rfl,rfl,ILe.cons PS ILe.refl,trivial⟩))]
theorem Aaa {xs:List Nat}(hx:B8 xs)(bad:Bool):SpM Tryz.prog I 47 [(0,some (rbx xs bad))] [.one (.ptr 0 0)] [(0,some (rbx (rst xs (Bt xs).2.1 (Bt xs).2.2) (bdd bad (Bt xs).2.2)))] (li ((Bt xs).1:Nat)):=by
 have hd:=AcU (I:=I) hx;have ht:=SC (I:=I) xs bad (Bt xs).2.1 (Bt xs).2.2 (fun h=>(Hv xs h).2.2.1)
 generalize Bt xs=r at *;exact sm 20 [po (hd),pom [0] (ht)]
theorem AaS (xs:List Nat)(h:(Fw xs).2.2=0):(Fw xs).2.1≤xs.length:=by
 unfold Fw at h ⊢;split at h
 ·rename_i h1;rw[if_pos h1];exact (Hv xs h1).2.2.1
 ·rename_i h1;exact absurd h h1
theorem Ze (xs:List Nat)(h:(Di xs).2.2=0):(Di xs).2.1≤xs.length:=by
 unfold Di at h ⊢;have:=Hv xs;generalize Bt xs=r at *;obtain ⟨a,b,e⟩:=r;simp only at *;by_cases h1:e=0
 ·have h9:=this h1
  subst h1;by_cases h2:20000 < a
  ·simp[h2] at h
  ·by_cases h3:xs.length - b < a
   ·simp[h2,h3] at h
   ·simp[h2,h3];omega
 ·simp[h1] at h
theorem XF {xs:List Nat}(hx:B8 xs)(bad:Bool):SpM Tryz.prog I 51 [(0,some (rbx xs bad))] [.one (.ptr 0 0)] [(0,some (rbx (rst xs (Fw xs).2.1 (Fw xs).2.2) (bdd bad (Fw xs).2.2)))] (li (Fw xs).1):=by
 have hd:=AcW (I:=I) hx;have ht:=SC (I:=I) xs bad (Fw xs).2.1 (Fw xs).2.2 (AaS xs);generalize Fw xs=r at *;exact sm 20 [po (hd),pom [0] (ht)]
theorem Ug {xs:List Nat}(hx:B8 xs)(bad:Bool):SpM Tryz.prog I 50 [(0,some (rbx xs bad))] [.one (.ptr 0 0)] [(0,some (rbx (rst xs (Di xs).2.1 (Di xs).2.2) (bdd bad (Di xs).2.2)))] (tS (Di xs).1):=by
 have hd:=AcV (I:=I) hx;have ht:=SC (I:=I) xs bad (Di xs).2.1 (Di xs).2.2 (Ze xs);generalize Di xs=r at *;exact sm 20 [po (hd),pom [0] (ht)]
theorem Dx (xs:List Nat)(bad b:Bool)(h:(!bad&&decide (xs.length=0))=b):SpM Tryz.prog I 52 [(0,some (rbx xs bad))] [.one (.ptr 0 0)] [(0,some (rbx xs bad))] (lb b):=by
 cases bad with
 | true =>
  subst h;exact sm 16 [pa]
 | false =>
  by_cases h0:xs.length=0
  ·rw[decide_eq_true h0] at h;subst h
   exact sm 16 [pa,pk (Al 31 5 3 1 ((xs).map (Ah)) ((xs).length:Int)),pk (Ar 3 ((xs).length:Int) 0)]
  ·rw[decide_eq_false h0] at h;subst h
   exact sm 16 [pa,pk (Al 31 5 3 1 ((xs).map (Ah)) ((xs).length:Int)),pk (Ag 3 ((xs).length:Int) 0)]
theorem UH {xs ys:List Nat}(b:Bool)(h:decide (xs=ys)=b)(hx:B8 xs)(hy:B8 ys):Sp Tryz.prog I 53 [.t (bI xs),.t (bI ys)] (lb b) :=
 sr 10 [pk (Qz xs),pk (Qz ys),pk (Xt 9 xs ys b h hx hy)]
end
abbrev chZ:CT := .ag [.i 0,.i 0,.o false,.z,.o false,.z,.i 0,.i 0,.i 0]
theorem AaM {bs r1 r2:List Nat}{d1 d2:Bool}{k n:Int}(hU1:SpM Tryz.prog Aq 47 [(0,some (rbx bs false))] [.one (.ptr 0 0)] [(0,some (rbx r1 d1))] (li k))(hU2:SpM Tryz.prog Aq 47 [(0,some (rbx r1 d1))] [.one (.ptr 0 0)] [(0,some (rbx r2 d2))] (li n))(hF:Sp Tryz.prog Aq 48 [ci 0,ci 1] (.tu [fc true 84 0,ci 0])){r3 s:List Nat}{d3:Bool}(hk:k=1)(hT:SpM Tryz.prog Aq 50 [(0,some (rbx r2 d2))] [.one (.ptr 0 0)] [(0,some (rbx r3 d3))] (tS s)){e:Int}(he:e≠0)(hP:Sp Tryz.prog Aq 49 [cS s] (.tu [frz,ci e])):Sp Tryz.prog Aq 16 [.t (bI bs)] (.tu [chZ,ci 2]) :=
 sr 62 [pom [4] (hU1),pom [4] (hU2),po (hF),pk (Ar 3 k 1),pom [4] (hT),po (hP),pk (AI 32 e 0)]
theorem YT {bs r1 r2:List Nat}{d1 d2:Bool}{k n:Int}(hU1:SpM Tryz.prog Aq 47 [(0,some (rbx bs false))] [.one (.ptr 0 0)] [(0,some (rbx r1 d1))] (li k))(hU2:SpM Tryz.prog Aq 47 [(0,some (rbx r1 d1))] [.one (.ptr 0 0)] [(0,some (rbx r2 d2))] (li n))(hF:Sp Tryz.prog Aq 48 [ci 0,ci 1] (.tu [fc true 84 0,ci 0])){r3 s:List Nat}{d3:Bool}(hk:k=1)(hT:SpM Tryz.prog Aq 50 [(0,some (rbx r2 d2))] [.one (.ptr 0 0)] [(0,some (rbx r3 d3))] (tS s)){q:Rat}(hP:Sp Tryz.prog Aq 49 [cS s] (.tu [fc true 84 q,ci 0]))(hD:SpM Tryz.prog Aq 52 [(0,some (rbx r3 d3))] [.one (.ptr 0 0)] [(0,some (rbx r3 d3))] (lb false)):Sp Tryz.prog Aq 16 [.t (bI bs)] (.tu [chZ,ci 2]) :=
 sr 62 [pom [4] (hU1),pom [4] (hU2),po (hF),pk (Ar 3 k 1),pom [4] (hT),po (hP),pa,pom [4] (hD),pa]
theorem YS {bs r1 r2:List Nat}{d1 d2:Bool}{k n:Int}(hU1:SpM Tryz.prog Aq 47 [(0,some (rbx bs false))] [.one (.ptr 0 0)] [(0,some (rbx r1 d1))] (li k))(hU2:SpM Tryz.prog Aq 47 [(0,some (rbx r1 d1))] [.one (.ptr 0 0)] [(0,some (rbx r2 d2))] (li n))(hF:Sp Tryz.prog Aq 48 [ci 0,ci 1] (.tu [fc true 84 0,ci 0])){r3 s:List Nat}{d3:Bool}(hk:k=1)(hT:SpM Tryz.prog Aq 50 [(0,some (rbx r2 d2))] [.one (.ptr 0 0)] [(0,some (rbx r3 d3))] (tS s)){q:Rat}(hP:Sp Tryz.prog Aq 49 [cS s] (.tu [fc true 84 q,ci 0]))(hD:SpM Tryz.prog Aq 52 [(0,some (rbx r3 d3))] [.one (.ptr 0 0)] [(0,some (rbx r3 d3))] (lb true)){c:List Nat}{e:Int}(he:e≠0)(hE:Sp Tryz.prog Aq 13 [chK true 84 ⟨k,n,q,0,0,0⟩] (.tu [.t (bI c),ci e])):Sp Tryz.prog Aq 16 [.t (bI bs)] (.tu [chZ,ci 2]) :=
 sr 62 [pom [4] (hU1),pom [4] (hU2),po (hF),pk (Ar 3 k 1),pom [4] (hT),po (hP),pa,pom [4] (hD),pa,po (hE),pk (AI 32 e 0)]
theorem YR {bs r1 r2:List Nat}{d1 d2:Bool}{k n:Int}(hU1:SpM Tryz.prog Aq 47 [(0,some (rbx bs false))] [.one (.ptr 0 0)] [(0,some (rbx r1 d1))] (li k))(hU2:SpM Tryz.prog Aq 47 [(0,some (rbx r1 d1))] [.one (.ptr 0 0)] [(0,some (rbx r2 d2))] (li n))(hF:Sp Tryz.prog Aq 48 [ci 0,ci 1] (.tu [fc true 84 0,ci 0])){r3 s:List Nat}{d3:Bool}(hk:k=1)(hT:SpM Tryz.prog Aq 50 [(0,some (rbx r2 d2))] [.one (.ptr 0 0)] [(0,some (rbx r3 d3))] (tS s)){q:Rat}(hP:Sp Tryz.prog Aq 49 [cS s] (.tu [fc true 84 q,ci 0]))(hD:SpM Tryz.prog Aq 52 [(0,some (rbx r3 d3))] [.one (.ptr 0 0)] [(0,some (rbx r3 d3))] (lb true)){c:List Nat}(hE:Sp Tryz.prog Aq 13 [chK true 84 ⟨k,n,q,0,0,0⟩] (.tu [.t (bI c),ci 0]))(hQ:Sp Tryz.prog Aq 53 [.t (bI c),.t (bI bs)] (lb false)):Sp Tryz.prog Aq 16 [.t (bI bs)] (.tu [chZ,ci 2]) :=
 sr 62 [pom [4] (hU1),pom [4] (hU2),po (hF),pk (Ar 3 k 1),pom [4] (hT),po (hP),pa,pom [4] (hD),pa,po (hE),pa,po (hQ),pa]
theorem YQ {bs r1 r2:List Nat}{d1 d2:Bool}{k n:Int}(hU1:SpM Tryz.prog Aq 47 [(0,some (rbx bs false))] [.one (.ptr 0 0)] [(0,some (rbx r1 d1))] (li k))(hU2:SpM Tryz.prog Aq 47 [(0,some (rbx r1 d1))] [.one (.ptr 0 0)] [(0,some (rbx r2 d2))] (li n))(hF:Sp Tryz.prog Aq 48 [ci 0,ci 1] (.tu [fc true 84 0,ci 0])){r3 s:List Nat}{d3:Bool}(hk:k=1)(hT:SpM Tryz.prog Aq 50 [(0,some (rbx r2 d2))] [.one (.ptr 0 0)] [(0,some (rbx r3 d3))] (tS s)){q:Rat}(hP:Sp Tryz.prog Aq 49 [cS s] (.tu [fc true 84 q,ci 0]))(hD:SpM Tryz.prog Aq 52 [(0,some (rbx r3 d3))] [.one (.ptr 0 0)] [(0,some (rbx r3 d3))] (lb true)){c:List Nat}(hE:Sp Tryz.prog Aq 13 [chK true 84 ⟨k,n,q,0,0,0⟩] (.tu [.t (bI c),ci 0]))(hQ:Sp Tryz.prog Aq 53 [.t (bI c),.t (bI bs)] (lb true)):Sp Tryz.prog Aq 16 [.t (bI bs)] (.tu [chK true 84 ⟨k,n,q,0,0,0⟩,ci 0]) :=
 sr 62 [pom [4] (hU1),pom [4] (hU2),po (hF),pk (Ar 3 k 1),pom [4] (hT),po (hP),pa,pom [4] (hD),pa,po (hE),pa,po (hQ),pa]
theorem YP {bs r1 r2:List Nat}{d1 d2:Bool}{k n:Int}(hU1:SpM Tryz.prog Aq 47 [(0,some (rbx bs false))] [.one (.ptr 0 0)] [(0,some (rbx r1 d1))] (li k))(hU2:SpM Tryz.prog Aq 47 [(0,some (rbx r1 d1))] [.one (.ptr 0 0)] [(0,some (rbx r2 d2))] (li n))(hF:Sp Tryz.prog Aq 48 [ci 0,ci 1] (.tu [fc true 84 0,ci 0])){r3 r4:List Nat}{d3 d4:Bool}{a b:Int}(hk:k=2)(hU3:SpM Tryz.prog Aq 47 [(0,some (rbx r2 d2))] [.one (.ptr 0 0)] [(0,some (rbx r3 d3))] (li a))(hU4:SpM Tryz.prog Aq 47 [(0,some (rbx r3 d3))] [.one (.ptr 0 0)] [(0,some (rbx r4 d4))] (li b))(hD:SpM Tryz.prog Aq 52 [(0,some (rbx r4 d4))] [.one (.ptr 0 0)] [(0,some (rbx r4 d4))] (lb false)):Sp Tryz.prog Aq 16 [.t (bI bs)] (.tu [chZ,ci 2]) :=
 sr 62 [pom [4] (hU1),pom [4] (hU2),po (hF),pk (Ag 3 k 1),pk (Ar 3 k 2),pom [4] (hU3),pom [4] (hU4),pom [4] (hD),pa]
theorem YO {bs r1 r2:List Nat}{d1 d2:Bool}{k n:Int}(hU1:SpM Tryz.prog Aq 47 [(0,some (rbx bs false))] [.one (.ptr 0 0)] [(0,some (rbx r1 d1))] (li k))(hU2:SpM Tryz.prog Aq 47 [(0,some (rbx r1 d1))] [.one (.ptr 0 0)] [(0,some (rbx r2 d2))] (li n))(hF:Sp Tryz.prog Aq 48 [ci 0,ci 1] (.tu [fc true 84 0,ci 0])){r3 r4:List Nat}{d3 d4:Bool}{a b:Int}(hk:k=2)(hU3:SpM Tryz.prog Aq 47 [(0,some (rbx r2 d2))] [.one (.ptr 0 0)] [(0,some (rbx r3 d3))] (li a))(hU4:SpM Tryz.prog Aq 47 [(0,some (rbx r3 d3))] [.one (.ptr 0 0)] [(0,some (rbx r4 d4))] (li b))(hD:SpM Tryz.prog Aq 52 [(0,some (rbx r4 d4))] [.one (.ptr 0 0)] [(0,some (rbx r4 d4))] (lb true)){c:List Nat}{e:Int}(he:e≠0)(hE:Sp Tryz.prog Aq 13 [chK true 84 ⟨k,n,0,a,b,0⟩] (.tu [.t (bI c),ci e])):Sp Tryz.prog Aq 16 [.t (bI bs)] (.tu [chZ,ci 2]) :=
 sr 62 [pom [4] (hU1),pom [4] (hU2),po (hF),pk (Ag 3 k 1),pk (Ar 3 k 2),pom [4] (hU3),pom [4] (hU4),pom [4] (hD),pa,po (hE),pk (AI 32 e 0)]
theorem YN {bs r1 r2:List Nat}{d1 d2:Bool}{k n:Int}(hU1:SpM Tryz.prog Aq 47 [(0,some (rbx bs false))] [.one (.ptr 0 0)] [(0,some (rbx r1 d1))] (li k))(hU2:SpM Tryz.prog Aq 47 [(0,some (rbx r1 d1))] [.one (.ptr 0 0)] [(0,some (rbx r2 d2))] (li n))(hF:Sp Tryz.prog Aq 48 [ci 0,ci 1] (.tu [fc true 84 0,ci 0])){r3 r4:List Nat}{d3 d4:Bool}{a b:Int}(hk:k=2)(hU3:SpM Tryz.prog Aq 47 [(0,some (rbx r2 d2))] [.one (.ptr 0 0)] [(0,some (rbx r3 d3))] (li a))(hU4:SpM Tryz.prog Aq 47 [(0,some (rbx r3 d3))] [.one (.ptr 0 0)] [(0,some (rbx r4 d4))] (li b))(hD:SpM Tryz.prog Aq 52 [(0,some (rbx r4 d4))] [.one (.ptr 0 0)] [(0,some (rbx r4 d4))] (lb true)){c:List Nat}(hE:Sp Tryz.prog Aq 13 [chK true 84 ⟨k,n,0,a,b,0⟩] (.tu [.t (bI c),ci 0]))(hQ:Sp Tryz.prog Aq 53 [.t (bI c),.t (bI bs)] (lb false)):Sp Tryz.prog Aq 16 [.t (bI bs)] (.tu [chZ,ci 2]) :=
 sr 62 [pom [4] (hU1),pom [4] (hU2),po (hF),pk (Ag 3 k 1),pk (Ar 3 k 2),pom [4] (hU3),pom [4] (hU4),pom [4] (hD),pa,po (hE),pa,po (hQ),pa]
theorem YM {bs r1 r2:List Nat}{d1 d2:Bool}{k n:Int}(hU1:SpM Tryz.prog Aq 47 [(0,some (rbx bs false))] [.one (.ptr 0 0)] [(0,some (rbx r1 d1))] (li k))(hU2:SpM Tryz.prog Aq 47 [(0,some (rbx r1 d1))] [.one (.ptr 0 0)] [(0,some (rbx r2 d2))] (li n))(hF:Sp Tryz.prog Aq 48 [ci 0,ci 1] (.tu [fc true 84 0,ci 0])){r3 r4:List Nat}{d3 d4:Bool}{a b:Int}(hk:k=2)(hU3:SpM Tryz.prog Aq 47 [(0,some (rbx r2 d2))] [.one (.ptr 0 0)] [(0,some (rbx r3 d3))] (li a))(hU4:SpM Tryz.prog Aq 47 [(0,some (rbx r3 d3))] [.one (.ptr 0 0)] [(0,some (rbx r4 d4))] (li b))(hD:SpM Tryz.prog Aq 52 [(0,some (rbx r4 d4))] [.one (.ptr 0 0)] [(0,some (rbx r4 d4))] (lb true)){c:List Nat}(hE:Sp Tryz.prog Aq 13 [chK true 84 ⟨k,n,0,a,b,0⟩] (.tu [.t (bI c),ci 0]))(hQ:Sp Tryz.prog Aq 53 [.t (bI c),.t (bI bs)] (lb true)):Sp Tryz.prog Aq 16 [.t (bI bs)] (.tu [chK true 84 ⟨k,n,0,a,b,0⟩,ci 0]) :=
 sr 62 [pom [4] (hU1),pom [4] (hU2),po (hF),pk (Ag 3 k 1),pk (Ar 3 k 2),pom [4] (hU3),pom [4] (hU4),pom [4] (hD),pa,po (hE),pa,po (hQ),pa]
theorem YL {bs r1 r2:List Nat}{d1 d2:Bool}{k n:Int}(hU1:SpM Tryz.prog Aq 47 [(0,some (rbx bs false))] [.one (.ptr 0 0)] [(0,some (rbx r1 d1))] (li k))(hU2:SpM Tryz.prog Aq 47 [(0,some (rbx r1 d1))] [.one (.ptr 0 0)] [(0,some (rbx r2 d2))] (li n))(hF:Sp Tryz.prog Aq 48 [ci 0,ci 1] (.tu [fc true 84 0,ci 0])){r3:List Nat}{d3:Bool}{z:Int}(hk:k=3)(hI:SpM Tryz.prog Aq 51 [(0,some (rbx r2 d2))] [.one (.ptr 0 0)] [(0,some (rbx r3 d3))] (li z))(hD:SpM Tryz.prog Aq 52 [(0,some (rbx r3 d3))] [.one (.ptr 0 0)] [(0,some (rbx r3 d3))] (lb false)):Sp Tryz.prog Aq 16 [.t (bI bs)] (.tu [chZ,ci 2]) :=
 sr 62 [pom [4] (hU1),pom [4] (hU2),po (hF),pk (Ag 3 k 1),pk (Ag 3 k 2),pk (Ar 3 k 3),pom [4] (hI),pom [4] (hD),pa]
theorem YK {bs r1 r2:List Nat}{d1 d2:Bool}{k n:Int}(hU1:SpM Tryz.prog Aq 47 [(0,some (rbx bs false))] [.one (.ptr 0 0)] [(0,some (rbx r1 d1))] (li k))(hU2:SpM Tryz.prog Aq 47 [(0,some (rbx r1 d1))] [.one (.ptr 0 0)] [(0,some (rbx r2 d2))] (li n))(hF:Sp Tryz.prog Aq 48 [ci 0,ci 1] (.tu [fc true 84 0,ci 0])){r3:List Nat}{d3:Bool}{z:Int}(hk:k=3)(hI:SpM Tryz.prog Aq 51 [(0,some (rbx r2 d2))] [.one (.ptr 0 0)] [(0,some (rbx r3 d3))] (li z))(hD:SpM Tryz.prog Aq 52 [(0,some (rbx r3 d3))] [.one (.ptr 0 0)] [(0,some (rbx r3 d3))] (lb true)){c:List Nat}{e:Int}(he:e≠0)(hE:Sp Tryz.prog Aq 13 [chK true 84 ⟨k,n,0,0,0,z⟩] (.tu [.t (bI c),ci e])):Sp Tryz.prog Aq 16 [.t (bI bs)] (.tu [chZ,ci 2]) :=
 sr 62 [pom [4] (hU1),pom [4] (hU2),po (hF),pk (Ag 3 k 1),pk (Ag 3 k 2),pk (Ar 3 k 3),pom [4] (hI),pom [4] (hD),pa,po (hE),pk (AI 32 e 0)]
theorem YJ {bs r1 r2:List Nat}{d1 d2:Bool}{k n:Int}(hU1:SpM Tryz.prog Aq 47 [(0,some (rbx bs false))] [.one (.ptr 0 0)] [(0,some (rbx r1 d1))] (li k))(hU2:SpM Tryz.prog Aq 47 [(0,some (rbx r1 d1))] [.one (.ptr 0 0)] [(0,some (rbx r2 d2))] (li n))(hF:Sp Tryz.prog Aq 48 [ci 0,ci 1] (.tu [fc true 84 0,ci 0])){r3:List Nat}{d3:Bool}{z:Int}(hk:k=3)(hI:SpM Tryz.prog Aq 51 [(0,some (rbx r2 d2))] [.one (.ptr 0 0)] [(0,some (rbx r3 d3))] (li z))(hD:SpM Tryz.prog Aq 52 [(0,some (rbx r3 d3))] [.one (.ptr 0 0)] [(0,some (rbx r3 d3))] (lb true)){c:List Nat}(hE:Sp Tryz.prog Aq 13 [chK true 84 ⟨k,n,0,0,0,z⟩] (.tu [.t (bI c),ci 0]))(hQ:Sp Tryz.prog Aq 53 [.t (bI c),.t (bI bs)] (lb false)):Sp Tryz.prog Aq 16 [.t (bI bs)] (.tu [chZ,ci 2]) :=
 sr 62 [pom [4] (hU1),pom [4] (hU2),po (hF),pk (Ag 3 k 1),pk (Ag 3 k 2),pk (Ar 3 k 3),pom [4] (hI),pom [4] (hD),pa,po (hE),pa,po (hQ),pa]
theorem YI {bs r1 r2:List Nat}{d1 d2:Bool}{k n:Int}(hU1:SpM Tryz.prog Aq 47 [(0,some (rbx bs false))] [.one (.ptr 0 0)] [(0,some (rbx r1 d1))] (li k))(hU2:SpM Tryz.prog Aq 47 [(0,some (rbx r1 d1))] [.one (.ptr 0 0)] [(0,some (rbx r2 d2))] (li n))(hF:Sp Tryz.prog Aq 48 [ci 0,ci 1] (.tu [fc true 84 0,ci 0])){r3:List Nat}{d3:Bool}{z:Int}(hk:k=3)(hI:SpM Tryz.prog Aq 51 [(0,some (rbx r2 d2))] [.one (.ptr 0 0)] [(0,some (rbx r3 d3))] (li z))(hD:SpM Tryz.prog Aq 52 [(0,some (rbx r3 d3))] [.one (.ptr 0 0)] [(0,some (rbx r3 d3))] (lb true)){c:List Nat}(hE:Sp Tryz.prog Aq 13 [chK true 84 ⟨k,n,0,0,0,z⟩] (.tu [.t (bI c),ci 0]))(hQ:Sp Tryz.prog Aq 53 [.t (bI c),.t (bI bs)] (lb true)):Sp Tryz.prog Aq 16 [.t (bI bs)] (.tu [chK true 84 ⟨k,n,0,0,0,z⟩,ci 0]) :=
 sr 62 [pom [4] (hU1),pom [4] (hU2),po (hF),pk (Ag 3 k 1),pk (Ag 3 k 2),pk (Ar 3 k 3),pom [4] (hI),pom [4] (hD),pa,po (hE),pa,po (hQ),pa]
theorem YW {bs r1 r2:List Nat}{d1 d2:Bool}{k n:Int}(hU1:SpM Tryz.prog Aq 47 [(0,some (rbx bs false))] [.one (.ptr 0 0)] [(0,some (rbx r1 d1))] (li k))(hU2:SpM Tryz.prog Aq 47 [(0,some (rbx r1 d1))] [.one (.ptr 0 0)] [(0,some (rbx r2 d2))] (li n))(hF:Sp Tryz.prog Aq 48 [ci 0,ci 1] (.tu [fc true 84 0,ci 0]))(h1:k≠1)(h2:k≠2)(h3:k≠3)(hD:SpM Tryz.prog Aq 52 [(0,some (rbx r2 d2))] [.one (.ptr 0 0)] [(0,some (rbx r2 d2))] (lb false)):Sp Tryz.prog Aq 16 [.t (bI bs)] (.tu [chZ,ci 2]) :=
 sr 62 [pom [4] (hU1),pom [4] (hU2),po (hF),pk (Ag 3 k 1),pk (Ag 3 k 2),pk (Ag 3 k 3),pom [4] (hD),pa]
theorem YV {bs r1 r2:List Nat}{d1 d2:Bool}{k n:Int}(hU1:SpM Tryz.prog Aq 47 [(0,some (rbx bs false))] [.one (.ptr 0 0)] [(0,some (rbx r1 d1))] (li k))(hU2:SpM Tryz.prog Aq 47 [(0,some (rbx r1 d1))] [.one (.ptr 0 0)] [(0,some (rbx r2 d2))] (li n))(hF:Sp Tryz.prog Aq 48 [ci 0,ci 1] (.tu [fc true 84 0,ci 0]))(h1:k≠1)(h2:k≠2)(h3:k≠3)(hD:SpM Tryz.prog Aq 52 [(0,some (rbx r2 d2))] [.one (.ptr 0 0)] [(0,some (rbx r2 d2))] (lb true)){c:List Nat}{e:Int}(he:e≠0)(hE:Sp Tryz.prog Aq 13 [chK true 84 ⟨k,n,0,0,0,0⟩] (.tu [.t (bI c),ci e])):Sp Tryz.prog Aq 16 [.t (bI bs)] (.tu [chZ,ci 2]) :=
 sr 62 [pom [4] (hU1),pom [4] (hU2),po (hF),pk (Ag 3 k 1),pk (Ag 3 k 2),pk (Ag 3 k 3),pom [4] (hD),pa,po (hE),pk (AI 32 e 0)]
theorem YU {bs r1 r2:List Nat}{d1 d2:Bool}{k n:Int}(hU1:SpM Tryz.prog Aq 47 [(0,some (rbx bs false))] [.one (.ptr 0 0)] [(0,some (rbx r1 d1))] (li k))(hU2:SpM Tryz.prog Aq 47 [(0,some (rbx r1 d1))] [.one (.ptr 0 0)] [(0,some (rbx r2 d2))] (li n))(hF:Sp Tryz.prog Aq 48 [ci 0,ci 1] (.tu [fc true 84 0,ci 0]))(h1:k≠1)(h2:k≠2)(h3:k≠3)(hD:SpM Tryz.prog Aq 52 [(0,some (rbx r2 d2))] [.one (.ptr 0 0)] [(0,some (rbx r2 d2))] (lb true)){c:List Nat}(hE:Sp Tryz.prog Aq 13 [chK true 84 ⟨k,n,0,0,0,0⟩] (.tu [.t (bI c),ci 0]))(hQ:Sp Tryz.prog Aq 53 [.t (bI c),.t (bI bs)] (lb false)):Sp Tryz.prog Aq 16 [.t (bI bs)] (.tu [chZ,ci 2]) :=
 sr 62 [pom [4] (hU1),pom [4] (hU2),po (hF),pk (Ag 3 k 1),pk (Ag 3 k 2),pk (Ag 3 k 3),pom [4] (hD),pa,po (hE),pa,po (hQ),pa]
theorem Nu {z:Int}(h:(Dd z).length≤800):Lim 84 z:=by
 have h1:(dec z.natAbs).length≤800:=by
  unfold Dd D5 at h;rw[List.length_append] at h;omega
 have h2:=DA (Se z.natAbs).2.1 h1;rw[Nj] at h2;unfold Lim at h2 ⊢
 simpa using h2
theorem AaD {q:Rat}(h:(Co q).length≤400):Lq q 84:=by
 unfold Co at h;split at h
 ·rename_i h1
  exact ⟨Nu (by omega),by rw[h1];exact Fi (by omega),by omega⟩
 ·simp only[List.length_append] at h
  exact ⟨Nu (by omega),Nu (by omega),by omega⟩
theorem RR {q:Rat}{e:Int}(h:Lq q 84){f:FuncId}{args:List CT}{I:WInv}(hs:Sp Tryz.prog I f args (.tu [frc q,ci e])):Sp Tryz.prog I f args (.tu [fc true 84 q,ci e]):=hs.rs (QG ⟨Jx h,CTle.refl,trivial⟩)
theorem ST {xs:List Nat}(hx:B8 xs):(∃ q:Rat,Sp Tryz.prog Aq 49 [cS xs] (.tu [fc true 84 q,ci 0]))∨(∃ e:Int,e≠0∧Sp Tryz.prog Aq 49 [cS xs] (.tu [frz,ci e])):=by
 by_cases hl:xs.length≤400
 ·cases hi:DI 47 xs with
  | some i =>
   by_cases h:Da (BV (xs.take i)) (Be (xs.take i))∧H8 (xs.drop (i+1))∧xs.drop (i+1)≠[48]
   ·have l1:(xs.take i).length≤400:=by rw[List.length_take];omega
    have l2:(xs.drop (i+1)).length≤400:=by rw[List.length_drop];omega
    have l3:=Dc (xs.take i);exact .inl ⟨_,RR ⟨Fj ((DA h.1.1.2.1 (by omega)).sgn _),Ge (DA h.2.1.2.1 (by omega)) (by omega),by omega⟩ (JR hx hl hi h.1 h.2.1 h.2.2)⟩
   ·exact .inr ⟨1,by omega,Rj hx hl hi h⟩
  | none =>
   cases hj:DI 46 xs with
   | some j =>
    have hlt:=(OL hj).1;have l1:(xs.take j).length=j:=by rw[List.length_take];omega
    have l2:(xs.drop (j+1)).length=xs.length - (j+1):=List.length_drop;have l3:=Dc (xs.take j);by_cases h:H8 (Be (xs.take j))∧xs.drop (j+1)≠[]∧okD (xs.drop (j+1))
    ·exact .inl ⟨_,RR ⟨Fj ((DA (h.1.2.1.app h.2.2) (by rw[List.length_append];omega)).sgn _),Ge (TU (by omega)) (by omega),by omega⟩ (MX hx hl hi hj (.inl ⟨_,rfl⟩) (Aao (hx.take j) (by omega) h.1 h.2.1 h.2.2))⟩
    ·exact .inr ⟨1,by omega,MX hx hl hi hj (.inr rfl) (Ac1 (hx.take j) (hx.drop (j+1)) (by omega) (by omega) h)⟩
   | none =>
    have l3:=Dc xs;by_cases h:Da (BV xs) (Be xs)
    ·exact .inl ⟨_,RR (Lq.int ((DA h.1.2.1 (by omega)).sgn _) (by omega)) (MW hx hl hi hj h)⟩
    ·exact .inr ⟨1,by omega,Rl hx hl hi hj h⟩
 ·exact .inr ⟨10,by omega,Rk (by omega)⟩
theorem By:Sp Tryz.prog Aq 48 [ci 0,ci 1] (.tu [fc true 84 0,ci 0]):=by
 have:=RP (I:=Aq) (a:=0) (b:=1) ⟨by omega,by omega⟩ ⟨by omega,by omega⟩ (by omega)
 rw[show Rat.divInt 0 1=0 by rfl] at this
 exact RR ⟨GN 84,Fi (by omega),by omega⟩ this
def rU (xs:List Nat):List Nat:=rst xs (Bt xs).2.1 (Bt xs).2.2
def eU (xs:List Nat):Nat:=(Bt xs).2.2
theorem GD {n:Nat}{r:List Nat}(h:n≤4611686018427387904):(Bt (Ad n++r)).1=n∧eU (Ad n++r)=0∧rU (Ad n++r)=r:=by
 unfold eU rU;rw[Ku n r h];exact ⟨rfl,rfl,by simp[rst]⟩
theorem L1 {xs:List Nat}(h:B8 xs):B8 (rU xs):=Acm h _ _
theorem Rh {q:Rat}(h:q.num.sign=0):q=0:=by
 have h1:q.num=0:=Int.sign_eq_zero_iff_zero.1 h;have:=Cj q;rw[h1,Rat.zero_divInt] at this;exact this.symm
theorem Qe {x:Ch}{b:List Nat}(h:Bs x=(b,0)) : ∃ n:Nat,n≤1099511627776∧x.node=(n:Int)∧((x=⟨1,n,x.q,0,0,0⟩∧(Co x.q).length≤400∧b=Ad 1++(Ad n++(Ad (Co x.q).length++Co x.q)))∨(∃ a c:Nat,a≤1099511627776∧c≤1099511627776∧x=⟨2,n,0,a,c,0⟩∧b=Ad 2++(Ad n++(Ad a++Ad c)))∨(x=⟨3,n,0,0,0,x.cost⟩∧BG x.cost=true∧b=Ad 3++(Ad n++Ad (zig x.cost)))):=by
 unfold Bs at h;split at h
 ·cases h
 ·rename_i hw
  simp only[Bool.not_eq_false] at hw;split at h
  ·cases h
  ·rename_i hl
   injection h with h;obtain ⟨n,hn,e1,hc⟩:=Mt hw;obtain ⟨kind,node,q,fst,nxt,cost⟩:=x;simp only at *;subst e1;refine ⟨n,hn,rfl,?_⟩;rcases hc with ⟨rfl,rfl,rfl,rfl⟩ | ⟨rfl,hs,rfl,a,c,ha,hc,rfl,rfl⟩ | ⟨rfl,hs,rfl,rfl,rfl,hz⟩
   ·exact .inl ⟨rfl,by omega,by rw[←h];simp[OI]⟩
   ·rw[Rh hs] at h ⊢
    exact .inr (.inl ⟨a,c,ha,hc,rfl,by rw[←h];simp[OI]⟩)
   ·rw[Rh hs] at h ⊢
    exact .inr (.inr ⟨rfl,hz,by rw[←h];simp[OI]⟩)
theorem DZ {n:Nat}(h:n≤4611686018427387904):B8 (Ad n):=N7 h
theorem Kc (x:Ch):B8 (Bs x).1:=by
 by_cases h:(Bs x).2=0
 ·have e:Bs x=((Bs x).1,0):=by rw[←h]
  obtain ⟨n,hn,e1,h1 | ⟨a,c,ha,hc,e2,h2⟩ | ⟨e2,hz,h2⟩⟩:=Qe e
  ·rw[h1.2.2];exact (DZ (by omega)).app ((DZ (by omega)).app ((DZ (by omega)).app (Mi _)))
  ·rw[h2];exact (DZ (by omega)).app ((DZ (by omega)).app ((DZ (by omega)).app (DZ (by omega))))
  ·rw[h2]
   have hc:=DE hz;exact (DZ (by omega)).app ((DZ (by omega)).app (DZ (Mr _ (by omega) (by omega))))
 ·intro y hy
  exfalso;unfold Bs at h hy;split at h
  ·rename_i h1;rw[if_pos h1] at hy;cases hy
  ·split at h
   ·rename_i h1 h2;rw[if_neg h1,if_pos h2] at hy;cases hy
   ·exact h rfl
theorem GP (x:Ch):(Bs x).1.length≤500:=by
 by_cases h:(Bs x).2=0
 ·have e:Bs x=((Bs x).1,0):=by rw[←h]
  have l1:=AM (n:=1) (by omega)
  have l2:=AM (n:=2) (by omega)
  have l3:=AM (n:=3) (by omega)
  obtain ⟨n,hn,e1,h1 | ⟨a,c,ha,hc,e2,h2⟩ | ⟨e2,hz,h2⟩⟩:=Qe e
  ·have l4:=AM (n:=n) (by omega)
   have l5:=AM (n:=(Co x.q).length) (by omega)
   rw[h1.2.2];simp only[List.length_append];omega
  ·have l4:=AM (n:=n) (by omega)
   have l5:=AM (n:=a) (by omega)
   have l6:=AM (n:=c) (by omega)
   rw[h2];simp only[List.length_append];omega
  ·have hc:=DE hz
   have l4:=AM (n:=n) (by omega)
   have l5:=AM (Mr x.cost (by omega) (by omega))
   rw[h2];simp only[List.length_append];omega
 ·unfold Bs at h ⊢
  split
  ·simp
  ·split
   ·simp
   ·rename_i h1 h2;rw[if_neg h1,if_neg h2] at h;exact absurd rfl h
theorem AbH (x:Ch):Sp Tryz.prog Aq 13 [chK true 84 x] (.tu [.t (bI (Bs x).1),ci (Bs x).2]):=(YD x (by omega)).inv SD
theorem QV {xs:List Nat}(hx:B8 xs)(bad:Bool):SpM Tryz.prog Aq 47 [(0,some (rbx xs bad))] [.one (.ptr 0 0)] [(0,some (rbx (rU xs) (bdd bad (eU xs))))] (li ((Bt xs).1:Nat)):=Aaa hx bad
theorem Wk {y:Ch}{b:List Nat}(hy:Bs y=(b,0)):Sp Tryz.prog Aq 16 [.t (bI b)] (.tu [chK true 84 y,ci 0]):=by
 have hb:B8 b:=by have:=Kc y;rwa [hy] at this
 have hE:=AbH y;rw[hy] at hE;have hQ:=UH (I:=Aq) (xs:=b) (ys:=b) true (decide_eq_true rfl) hb hb;have hU1:=QV hb false;have hU2:=QV (L1 hb) (bdd false (eU b));have b2:=L1 (L1 hb);obtain ⟨n,hn,e1,⟨ey,hl,h1⟩ | ⟨a,c,ha,hc,ey,h1⟩ | ⟨ey,hz,h1⟩⟩:=Qe hy
 ·obtain ⟨f1,f2,f3⟩:=GD (n:=1) (r:=Ad n++(Ad (Co y.q).length++Co y.q)) (by omega)
  obtain ⟨g1,g2,g3⟩:=GD (n:=n) (r:=Ad (Co y.q).length++Co y.q) (by omega)
  rw[←h1] at f1 f2 f3;rw[f1,f2,f3] at hU1;rw[f2,f3,g1,g2,g3] at hU2;rw[f3,g3] at b2;have hT:=Ug (I:=Aq) b2 (bdd (bdd false 0) 0);have hd:=Zf (Co y.q) [] (by omega)
  rw[List.append_nil] at hd;rw[hd] at hT;have er:rst (Ad (Co y.q).length++Co y.q) (Ad (Co y.q).length++Co y.q).length 0=[]:=by unfold rst;rw[if_pos rfl];exact List.drop_eq_nil_of_le (Nat.le_refl _)
  have hT:SpM Tryz.prog Aq _ _ _ [(0,some (rbx (rst (Ad (Co y.q).length++Co y.q) (Ad (Co y.q).length++Co y.q).length 0) (bdd (bdd (bdd false 0) 0) 0)))] _:=hT;rw[er] at hT;rw[ey] at hE ⊢;exact YQ hU1 hU2 By rfl hT (RR (AaD hl) (SS y.q hl)) (Dx [] _ true rfl) hE hQ
 ·obtain ⟨f1,f2,f3⟩:=GD (n:=2) (r:=Ad n++(Ad a++Ad c)) (by omega)
  obtain ⟨g1,g2,g3⟩:=GD (n:=n) (r:=Ad a++Ad c) (by omega)
  obtain ⟨k1,k2,k3⟩:=GD (n:=a) (r:=Ad c) (by omega)
  obtain ⟨l1,l2,l3⟩:=GD (n:=c) (r:=[]) (by omega)
  rw[List.append_nil] at l1 l2 l3;rw[←h1] at f1 f2 f3;rw[f1,f2,f3] at hU1;rw[f2,f3,g1,g2,g3] at hU2;rw[f3,g3] at b2;have hU3:=QV b2 (bdd (bdd false 0) 0);have hU4:=QV (L1 b2) (bdd (bdd (bdd false 0) 0) (eU (Ad a++Ad c)));rw[k1,k2,k3] at hU3;rw[k2,k3,l1,l2,l3] at hU4;rw[ey] at hE ⊢;exact YM hU1 hU2 By rfl hU3 hU4 (Dx [] _ true rfl) hE hQ
 ·have hc:=DE hz
  obtain ⟨f1,f2,f3⟩:=GD (n:=3) (r:=Ad n++Ad (zig y.cost)) (by omega)
  obtain ⟨g1,g2,g3⟩:=GD (n:=n) (r:=Ad (zig y.cost)) (by omega)
  rw[←h1] at f1 f2 f3;rw[f1,f2,f3] at hU1;rw[f2,f3,g1,g2,g3] at hU2;rw[f3,g3] at b2;have hI:=XF (I:=Aq) b2 (bdd (bdd false 0) 0);have hd:=Zg y.cost [] (by omega) (by omega)
  rw[List.append_nil] at hd;rw[hd] at hI;have er:rst (Ad (zig y.cost)) (Ad (zig y.cost)).length 0=[]:=by unfold rst;rw[if_pos rfl];exact List.drop_eq_nil_of_le (Nat.le_refl _)
  have hI:SpM Tryz.prog Aq _ _ _ [(0,some (rbx (rst (Ad (zig y.cost)) (Ad (zig y.cost)).length 0) (bdd (bdd (bdd false 0) 0) 0)))] _:=hI;rw[er] at hI;rw[ey] at hE ⊢;exact YI hU1 hU2 By rfl hI (Dx [] _ true rfl) hE hQ
theorem RH {b : List Nat} (hb : B8 b) (hno : ∀ y, Bs y ≠ (b, 0)) : Sp Tryz.prog Aq 16 [.t (bI b)] (.tu [chZ, ci 2]) := by
 have ends : ∀ x:Ch,(∃ e:Int,e≠0 ∧ ∃ c,Sp Tryz.prog Aq 13 [chK true 84 x] (.tu [.t (bI c),ci e]))∨(∃ c,Sp Tryz.prog Aq 13 [chK true 84 x] (.tu [.t (bI c),ci 0])∧Sp Tryz.prog Aq 53 [.t (bI c),.t (bI b)] (lb false)):=by
  intro x;have hE:=AbH x;by_cases h:(Bs x).2=0
  ·rw[h] at hE
   exact .inr ⟨_,hE,UH false (decide_eq_false fun h2=>hno x (by rw[←h2,←h])) (Kc x) hb⟩
  ·exact .inl ⟨_,h,_,hE⟩
 have hU1:=QV hb false;have hU2:=QV (L1 hb) (bdd false (eU b));have b2:=L1 (L1 hb);generalize rU (rU b)=r2 at *;generalize bdd (bdd false (eU b)) (eU (rU b))=d2 at *;by_cases k1:((Bt b).1:Int)=1
 ·have hT:=Ug (I:=Aq) b2 d2
  have hs:B8 (Di r2).1:=by
   unfold Di;split
   ·exact fun x hx=>by cases hx
   ·split
    ·exact fun x hx=>by cases hx
    ·split
     ·exact fun x hx=>by cases hx
     ·exact (b2.drop _).take _
  rcases ST hs with ⟨q,hP⟩ | ⟨e,he,hP⟩
  ·cases hd:(!(bdd d2 (Di r2).2.2)&&decide ((rst r2 (Di r2).2.1 (Di r2).2.2).length=0)) with
   | false=>exact YT hU1 hU2 By k1 hT hP (Dx _ _ false hd)
   | true =>
    rcases ends ⟨((Bt b).1:Nat),((Bt (rU b)).1:Nat),q,0,0,0⟩ with ⟨e,he,c,hE⟩ | ⟨c,hE,hQ⟩
    ·exact YS hU1 hU2 By k1 hT hP (Dx _ _ true hd) he hE
    ·exact YR hU1 hU2 By k1 hT hP (Dx _ _ true hd) hE hQ
  ·exact AaM hU1 hU2 By k1 hT he hP
 ·by_cases k2:((Bt b).1:Int)=2
  ·have hU3:=QV b2 d2
   have hU4:=QV (L1 b2) (bdd d2 (eU r2));cases hd:(!(bdd (bdd d2 (eU r2)) (eU (rU r2)))&&decide ((rU (rU r2)).length=0)) with
   | false=>exact YP hU1 hU2 By k2 hU3 hU4 (Dx _ _ false hd)
   | true =>
    rcases ends ⟨((Bt b).1:Nat),((Bt (rU b)).1:Nat),0,((Bt r2).1:Nat),((Bt (rU r2)).1:Nat),0⟩ with ⟨e,he,c,hE⟩ | ⟨c,hE,hQ⟩
    ·exact YO hU1 hU2 By k2 hU3 hU4 (Dx _ _ true hd) he hE
    ·exact YN hU1 hU2 By k2 hU3 hU4 (Dx _ _ true hd) hE hQ
  ·by_cases k3:((Bt b).1:Int)=3
   ·have hI:=XF (I:=Aq) b2 d2
    cases hd:(!(bdd d2 (Fw r2).2.2)&&decide ((rst r2 (Fw r2).2.1 (Fw r2).2.2).length=0)) with
    | false=>exact YL hU1 hU2 By k3 hI (Dx _ _ false hd)
    | true =>
     rcases ends ⟨((Bt b).1:Nat),((Bt (rU b)).1:Nat),0,0,0,(Fw r2).1⟩ with ⟨e,he,c,hE⟩ | ⟨c,hE,hQ⟩
     ·exact YK hU1 hU2 By k3 hI (Dx _ _ true hd) he hE
     ·exact YJ hU1 hU2 By k3 hI (Dx _ _ true hd) hE hQ
   ·cases hd:(!d2&&decide (r2.length=0)) with
    | false=>exact YW hU1 hU2 By k1 k2 k3 (Dx _ _ false hd)
    | true =>
     rcases ends ⟨((Bt b).1:Nat),((Bt (rU b)).1:Nat),0,0,0,0⟩ with ⟨e,he,c,hE⟩ | ⟨c,hE,hQ⟩
     ·exact YV hU1 hU2 By k1 k2 k3 (Dx _ _ true hd) he hE
     ·exact YU hU1 hU2 By k1 k2 k3 (Dx _ _ true hd) hE hQ
set_option maxRecDepth 100000 in
theorem F4 (n:Nat)(w:World)(hn:n≤4611686018427387904) :
  Calls Tryz.prog 43 #[.int .i64 n] w (NS .u8 5 w (Ad n)):=by
 go_enter Tryz.func43,Tryz.ntmps43
 go_wp2
 go_loopw [0,3] (fun m v wr => ∃ (k:Nat) (xs:List Nat),m = .int .i64 k∧k≤n∧Hid (xs++Ad k=Ad n)∧Own .u8 5 w wr v xs) (fun m _ _=>(intOf m).toNat)
 case atStart=>exact ⟨n,[],rfl,Nat.le_refl _,rfl,Own.nil (Below.refl _ _)⟩
 case round =>
  obtain ⟨k,xs,rfl,hk,HE,hown⟩:=hrel;have hl:xs.length < 9:=by
   have h9:=AM hn;rw[←HE.out,List.length_append] at h9;have:=N6 k;omega
  by_cases hlt:128≤k
  ·have ha:=Adj k (by omega)
   have hu:IntKind.u8.wrap ((k % 128:Nat):Int)=((k % 128:Nat):Int):=by rw[IntKind.wrap_u8];omega
   have ho:=Ac3 (k % 128) (by omega)
   go_wp2_with (at_builtin;go_must (refine AB Tryz.elemU8w Tryz.underlying31 (hown.alloc _) (Rd.one .u8 _ 5 (y:=k % 128+128) ?_) rfl rfl rfl rfl (by omega) (by omega) ?_))
   case refine_1=>first | exact ho | (have ho':=ho;simp at ho';simp[ho'])
   case refine_2 =>
    intro v' w' hown' _ _;clear hown;go_wp2
    go_roundw
    case rel=>exact ⟨k / 128,_,by go_num,by omega,by rw[←HE.out,Hu (n:=k) (by omega),List.append_assoc];rfl,hown'⟩
    case measure=>simp[intOf];omega
  ·go_wp2_with (at_builtin;go_must (refine AB Tryz.elemU8w Tryz.underlying31 (hown.alloc _) (Rd.one .u8 _ 5 (y:=k) rfl) rfl rfl rfl rfl (by omega) (by omega) ?_;intro v' w' hown' _ _;clear hown))
   go_ret
   exact ⟨v',rfl,by rw[←HE.out,Dh (by omega)];exact hown'⟩
theorem QS (z:Int)(w:World)(h1 : -2305843009213693952≤z)(h2:z≤2305843009213693952) :
  Calls Tryz.prog 46 #[.int .i64 z] w (NS .u8 5 w (Ad (zig z))):=by
 by_cases hs:0≤z
 ·obtain ⟨m,rfl⟩:=Int.eq_ofNat_of_zero_le hs
  have hz:zig (m:Int)=2*m:=by unfold zig;rw[if_pos hs];omega
  rw[hz];clear hz;go_enter Tryz.func46,Tryz.ntmps46
  go_wp2_with (go_at_call 43;go_must (refine (F4 (2*m) _ (by omega)).mono ?_;rintro e w' ⟨v,rfl,hown⟩))
  go_ret
  exact ⟨v,rfl,hown⟩
 ·obtain ⟨m,hm⟩ : ∃ m:Nat,(-2*z - 1)=m:=⟨(-2*z - 1).toNat,by omega⟩
  have hz:zig z=m:=by unfold zig;rw[if_neg hs];omega
  rw[hz];clear hz;go_enter Tryz.func46,Tryz.ntmps46
  go_wp2_with (go_at_call 43;go_must (refine (F4 m _ (by omega)).mono ?_;rintro e w' ⟨v,rfl,hown⟩))
  go_ret
  exact ⟨v,rfl,hown⟩
theorem QN (s:ByteArray)(w:World)(hs:s.size≤1000000):Calls Tryz.prog 45 #[.string s] w (NS .u8 5 w (Ad s.size++bytesOf s)):=by
 go_enter Tryz.func45,Tryz.ntmps45
 go_wp2_with (first | (go_at_call 43;go_must (refine (F4 s.size _ (by omega)).mono ?_;rintro e w' ⟨v,rfl,hown⟩)) | (at_builtin;refine BT Tryz.elemU8w Tryz.underlying31 Tryz.underlying9 hown rfl rfl rfl rfl ?_ ?_))
 case refine_1=>have:=AM (n:=s.size) (by omega);omega
 case refine_2 =>
  intro v1 w1 hown1 _;clear hown;go_wp2
  go_ret
  exact ⟨v1,rfl,hown1⟩
section
variable {I:WInv}{c:Bool}{k:Nat}
theorem JN {N:Nat→Prop}{w w':World}{xs:List Nat}{t:TypeId}{e:Ending}(h:NS .u8 t w xs e w') : ∃ v,e = .returned v∧(tit (bI xs)).sem (Nx N w w') w' G0 v∧Below w.heap.size w w':=by
 obtain ⟨v,e1,h1⟩:=h;exact ⟨_,e1,SX h1,h1.2⟩
theorem Gy (n:Nat)(h:n≤4611686018427387904):Sp Tryz.prog I 43 [ci (n:Int)] (tit (bI (Ad n))):=by
 intro N w vs _ _ hv;rw[K8 hv];exact (F4 n w h).mono fun e w' he=>JN he
theorem Ab4 (z:Int)(h:BG z=true):Sp Tryz.prog I 46 [ci z] (tit (bI (Ad (zig z)))):=by
 intro N w vs _ _ hv;rw[K8 hv];have:=DE h;exact (QS z w (by omega) (by omega)).mono fun e w' he=>JN he
theorem Aby {xs:List Nat}(hx:B8 xs)(hl:xs.length≤1000000):Sp Tryz.prog I 45 [cS xs] (tit (bI (Ad xs.length++xs))):=by
 intro N w vs _ _ hv;rw[K8 hv];have:=QN (AR xs) w (by rw[BM];omega)
 rw[BM,hx.bo] at this;exact this.mono fun e w' he=>JN he
theorem Aa8 (q:Rat)(hk:k≤1000)(b:Bool)(h:decide (q.den=1)=b):Sp Tryz.prog I 95 [fc c k q] (lb b):=by
 have hm:decide (CO (q.den:Int) 1=0)=b:=by
  rw[←h];unfold CO;by_cases h1:q.den=1
  ·rw[h1];rfl
  ·rw[decide_eq_false h1]
   by_cases h2:(q.den:Int) < 1
   ·rw[if_pos h2];rfl
   ·rw[if_neg h2,if_neg (by omega)];rfl
 cases b with
 | false=>exact sr 9 [po ((BJ (I:=I) (c:=c) (k:=k) (p:=q) (by omega)).rs (CN (k:=k) (q:=q)).tv),po (Uk (I:=I) 1 ⟨by omega,by omega⟩),po (Ab5 (I:=I) (k:=k) (j:=2) (a:=(q.den:Int)) (b:=1) (by omega) (by omega)),pk (AO 3 (CO (q.den:Int) 1) 0 false hm)]
 | true=>exact sr 9 [po ((BJ (I:=I) (c:=c) (k:=k) (p:=q) (by omega)).rs (CN (k:=k) (q:=q)).tv),po (Uk (I:=I) 1 ⟨by omega,by omega⟩),po (Ab5 (I:=I) (k:=k) (j:=2) (a:=(q.den:Int)) (b:=1) (by omega) (by omega)),pk (AO 3 (CO (q.den:Int) 1) 0 true hm)]
theorem Ad6 {f:FuncId}{res:TV}{q:Rat}(h:Lq q k→Sp Tryz.prog I f [fc c k q] res):Sp Tryz.prog I f [fc c k q] res:=by
 intro N w vs hI hl hv;have hv':=hv;obtain ⟨v,r,e,h1,h2⟩:=hv';obtain ⟨n,d,a,b,k0,hq,hs⟩:=Ko h1;exact h (by rw[←hq];exact ⟨Fj a,Ge b k0,k0⟩) N w vs hI hl hv
theorem AbS (q:Rat)(hk:k≤1000)(hq:Lq q k):Sp Tryz.prog I 44 [fc c k q] (tS (Co q)):=by
 have fn:=XG (I:=I) (Ck (k:=k) (z:=q.num) (by omega))
 have fd:=XG (I:=I) (Ck (k:=k) (z:=(q.den:Int)) (by omega))
 have hk0:=hq.k0;have ln:=Kk hq.n;have ld:=Kk hq.d;have hi:=Aa8 (I:=I) (c:=true) (k:=k) q hk (decide (q.den=1)) rfl;unfold Co;by_cases h:q.den=1
 ·rw[if_pos h]
  rw[decide_eq_true h] at hi;exact sr 18 [po ((BJ (I:=I) (c:=c) (k:=k) (p:=q) (by omega)).rs (CN (k:=k) (q:=q)).tv),po (Sp.wk (args':=[.ag [.b (.it (IP (kP k q.num))),.b (.it (IP (kP k (q.den:Int))))]]) (hi) ⟨(Y8 (by omega)),trivial⟩),po (fn)]
 ·rw[if_neg h,←List.append_assoc]
  rw[decide_eq_false h] at hi;exact sr 18 [po ((BJ (I:=I) (c:=c) (k:=k) (p:=q) (by omega)).rs (CN (k:=k) (q:=q)).tv),po (Sp.wk (args':=[.ag [.b (.it (IP (kP k q.num))),.b (.it (IP (kP k (q.den:Int))))]]) (hi) ⟨(Y8 (by omega)),trivial⟩),po (fn),pk (G1 9 (Dd q.num) [47] (by simp;omega)),po (fd),pk (G1 9 (Dd q.num++[47]) (Dd (q.den:Int)) (by simp;omega))]
end
section
variable {I:WInv}{c:Bool}{k:Nat}
theorem AdV (x:Nat)(hx:x < 256):Bx Tryz.prog (.conv 3 5) [li (x:Int)] (B0 (.int .u8 (x:Int))):=BE (vs:=[.int .i64 (x:Int)]) fun w=>by
 have h:IntKind.u8.wrap (x:Int)=(x:Int):=by rw[IntKind.wrap_u8];omega
 have h1:(underlying 3).run Tryz.prog w = .ok (.int .i64) w:=AP (by kernel_rfl) w
 have h2:(underlying 5).run Tryz.prog w = .ok (.int .u8) w:=AP (by kernel_rfl) w
 simp[OpK.run,convert,h1,h2,Conv.intToInt,h]
def ust (n:Nat):Go.Proofs.YtdgbealknnmkoaaGreatDoor.St:=⟨[(0,.i (n:Int)),(3,.cv (.one (.z)))],[],50⟩
theorem M4 (n:Nat)(h:n < 128):SpN Tryz.prog I 43 [ci (n:Int)] none (bbx (Ad n)):=by
 have lo:LoopTr Tryz.prog I 20 (AK Tryz.prog 43 0) (ust n) (.exit 0) (ust n):=Bq (fun h=>by cases h) (fun _=>ust n) 0 (fun i hi=>absurd hi (by omega)) (rr [pk (Bd 3 (n:Int) 128)])
 have h1:SpN Tryz.prog I 43 [ci (n:Int)] none ⟨5,some (1,1),[.b (.lit (.int .u8 (n:Int)))]⟩:=sn 20 54 [pl (lo),pk (AdV n (by omega)),⟨.ap 0 1 1,⟨by omega,by simp[maxLen]⟩⟩] rfl
 rw[Dh h];exact h1
theorem AS (n:Int)(b:Bool)(h:Eh n=b):Sp Tryz.prog I 40 [ci n] (lb b):=by
 unfold Eh at h;by_cases h1:0≤n
 ·by_cases h2:n≤1099511627776
  ·rw[decide_eq_true h1,decide_eq_true h2] at h;subst h
   exact sr 9 [pk (Bn 3 n 0),pk (Ha 3 n 1099511627776)]
  ·rw[decide_eq_true h1,decide_eq_false h2] at h;subst h
   exact sr 9 [pk (Bn 3 n 0),pk (J6 3 n 1099511627776)]
 ·rw[decide_eq_false h1] at h;subst h
  exact sr 9 [pk (Bd 3 n 0)]
theorem Aaf {n:Nat}{q:Rat}(hn:n≤1099511627776)(s:List Nat)(hs8:B8 s)(hf:Sp Tryz.prog I 44 [fc c k q] (tS s)):(s.length≤400→Sp Tryz.prog I 14 [chK c k ⟨1,(n:Int),q,0,0,0⟩] (.tu [.t (bI (Ad 1++Ad n++(Ad s.length++s))),ci 0])∧SpN Tryz.prog I 14 [chK c k ⟨1,(n:Int),q,0,0,0⟩] (some [ci 0]) (bbx (Ad 1++Ad n++(Ad s.length++s))))∧(400 < s.length→Sp Tryz.prog I 14 [chK c k ⟨1,(n:Int),q,0,0,0⟩] (.tu [.one (.z),ci 10])):=by
 have hn':n≤4611686018427387904:=by omega
 have h1:=AM (n:=1) (by omega)
 have h2:=AM hn';have hn1:=AS (I:=I) (n:Int) true (by simp[Eh];omega)
 have hn2:=AS (I:=I) 0 true rfl;have hn3:=hn2;have hc:=EL (I:=I) 0;rw[show BG 0=true from rfl] at hc;constructor
 ·intro hl
  have h3:=AM (n:=s.length) (by omega)
  constructor
  ·exact sr 115 [pa,pa,pa,pa,po (hn1),pa,po (hn2),pa,po (hn3),pa,po (hc),pa,pa,pa,pa,pa,pa,pa,pon (M4 1 (by omega)),po (Gy n hn'),⟨.src 1 (bI (Ad n)) ((Ad n).map Ah).length ((Ad n).map Ah).flatten,Cg Bp (AZ _)⟩,⟨.ap ((Ad 1).length) (((Ad n).map Ah).length) 1,⟨by simp;omega,by simp[maxLen];omega⟩⟩,po (hf),pk (B6 9 3 s),pk (Au 3 (s.length:Int) 400),po (Aby hs8 (by omega)),⟨.src 1 (bI (Ad s.length++s)) ((Ad s.length++s).map Ah).length ((Ad s.length++s).map Ah).flatten,Cg Bp (AZ _)⟩,⟨.ap ((Ad 1).length+((Ad n).map Ah).length) (((Ad s.length++s).map Ah).length) 1,⟨by simp;omega,by simp[maxLen];omega⟩⟩,pm ((show Leads I _ ⟨[(7,.s 103),(3,.i 0)],[(103,some ⟨5,some (1,(Ad 1).length+((Ad n).map Ah).length+((Ad s.length++s).map Ah).length),((Aa ((Ad 1).map Ah))++(((Ad n).map Ah).flatten.map It.b))++(((Ad s.length++s).map Ah).flatten.map It.b)⟩)],105⟩ ⟨[(7,.s 103),(3,.i 0)],[(103,some ⟨5,some (1,(Ad 1++Ad n++(Ad s.length++s)).length),Aa ((Ad 1++Ad n++(Ad s.length++s)).map Ah)⟩)],105⟩ from AL [] ⟨rfl,TVle.refl,rfl,TVle.refl,trivial⟩ ⟨rfl,rfl,(congrArg (fun m=>some (1,m)) (show (Ad 1).length+((Ad n).map Ah).length+((Ad s.length++s).map Ah).length=(Ad 1++Ad n++(Ad s.length++s)).length by simp only[List.length_append,List.length_map] <;> omega)),ILe.eq (show ((Aa ((Ad 1).map Ah))++(((Ad n).map Ah).flatten.map It.b))++(((Ad s.length++s).map Ah).flatten.map It.b)=Aa ((Ad 1++Ad n++(Ad s.length++s)).map Ah) from by simp[Aa]),trivial⟩ (hnp:=⟨fun _=>BU (BU (Aw _) (Aw _)) (Aw _),trivial⟩))),pm (AX (I:=I) (t:=7) (k:=103) (E:=[(3,.i 0)]) (B:=[]) (nx:=105) (T:=5) (sz:=1) (n:=((Ad 1++Ad n++(Ad s.length++s)).length)) ((Ad 1++Ad n++(Ad s.length++s)).map Ah) rfl (by simp) Bp rfl)]
  ·exact sn 115 103 [pa,pa,pa,pa,po (hn1),pa,po (hn2),pa,po (hn3),pa,po (hc),pa,pa,pa,pa,pa,pa,pa,pon (M4 1 (by omega)),po (Gy n hn'),⟨.src 1 (bI (Ad n)) ((Ad n).map Ah).length ((Ad n).map Ah).flatten,Cg Bp (AZ _)⟩,⟨.ap ((Ad 1).length) (((Ad n).map Ah).length) 1,⟨by simp;omega,by simp[maxLen];omega⟩⟩,po (hf),pk (B6 9 3 s),pk (Au 3 (s.length:Int) 400),po (Aby hs8 (by omega)),⟨.src 1 (bI (Ad s.length++s)) ((Ad s.length++s).map Ah).length ((Ad s.length++s).map Ah).flatten,Cg Bp (AZ _)⟩,⟨.ap ((Ad 1).length+((Ad n).map Ah).length) (((Ad s.length++s).map Ah).length) 1,⟨by simp;omega,by simp[maxLen];omega⟩⟩,pm ((show Leads I _ ⟨[(7,.s 103),(3,.i 0)],[(103,some ⟨5,some (1,(Ad 1).length+((Ad n).map Ah).length+((Ad s.length++s).map Ah).length),((Aa ((Ad 1).map Ah))++(((Ad n).map Ah).flatten.map It.b))++(((Ad s.length++s).map Ah).flatten.map It.b)⟩)],105⟩ ⟨[(7,.s 103),(3,.i 0)],[(103,some ⟨5,some (1,(Ad 1++Ad n++(Ad s.length++s)).length),Aa ((Ad 1++Ad n++(Ad s.length++s)).map Ah)⟩)],105⟩ from AL [] ⟨rfl,TVle.refl,rfl,TVle.refl,trivial⟩ ⟨rfl,rfl,(congrArg (fun m=>some (1,m)) (show (Ad 1).length+((Ad n).map Ah).length+((Ad s.length++s).map Ah).length=(Ad 1++Ad n++(Ad s.length++s)).length by simp only[List.length_append,List.length_map] <;> omega)),ILe.eq (show ((Aa ((Ad 1).map Ah))++(((Ad n).map Ah).flatten.map It.b))++(((Ad s.length++s).map Ah).flatten.map It.b)=Aa ((Ad 1++Ad n++(Ad s.length++s)).map Ah) from by simp[Aa]),trivial⟩ (hnp:=⟨fun _=>BU (BU (Aw _) (Aw _)) (Aw _),trivial⟩)))] (Aw _)
 ·intro hl
  exact sr 115 [pa,pa,pa,pa,po (hn1),pa,po (hn2),pa,po (hn3),pa,po (hc),pa,pa,pa,pa,pa,pa,pa,pon (M4 1 (by omega)),po (Gy n hn'),⟨.src 1 (bI (Ad n)) ((Ad n).map Ah).length ((Ad n).map Ah).flatten,Cg Bp (AZ _)⟩,⟨.ap ((Ad 1).length) (((Ad n).map Ah).length) 1,⟨by simp;omega,by simp[maxLen];omega⟩⟩,po (hf),pk (B6 9 3 s),pk (BY 3 (s.length:Int) 400)]
theorem Aae {n a b:Nat}{q:Rat}(hn:n≤1099511627776)(ha:a≤1099511627776)(hb:b≤1099511627776)(hsg:Sp Tryz.prog I 42 [fc c k q] (li 0)):Sp Tryz.prog I 14 [chK c k ⟨2,(n:Int),q,(a:Int),(b:Int),0⟩] (.tu [.t (bI (Ad 2++Ad n++Ad a++Ad b)),ci 0])∧SpN Tryz.prog I 14 [chK c k ⟨2,(n:Int),q,(a:Int),(b:Int),0⟩] (some [ci 0]) (bbx (Ad 2++Ad n++Ad a++Ad b)):=by
 have hn':n≤4611686018427387904:=by omega
 have ha':a≤4611686018427387904:=by omega
 have hb':b≤4611686018427387904:=by omega
 have h1:=AM (n:=2) (by omega)
 have h2:=AM hn';have h3:=AM ha';have h4:=AM hb';have hn1:=AS (I:=I) (n:Int) true (by simp[Eh];omega)
 have hn2:=AS (I:=I) (a:Int) true (by simp[Eh];omega)
 have hn3:=AS (I:=I) (b:Int) true (by simp[Eh];omega)
 have hc:=EL (I:=I) 0;rw[show BG 0=true from rfl] at hc;constructor
 ·exact sr 115 [pa,pa,pa,pa,pa,po (hn1),pa,po (hn2),pa,po (hn3),pa,po (hc),pa,pa,po (hsg),pa,pa,pa,pa,pon (M4 2 (by omega)),po (Gy n hn'),⟨.src 1 (bI (Ad n)) ((Ad n).map Ah).length ((Ad n).map Ah).flatten,Cg Bp (AZ _)⟩,⟨.ap ((Ad 2).length) (((Ad n).map Ah).length) 1,⟨by simp;omega,by simp[maxLen];omega⟩⟩,po (Gy a ha'),⟨.src 1 (bI (Ad a)) ((Ad a).map Ah).length ((Ad a).map Ah).flatten,Cg Bp (AZ _)⟩,⟨.ap ((Ad 2).length+((Ad n).map Ah).length) (((Ad a).map Ah).length) 1,⟨by simp;omega,by simp[maxLen];omega⟩⟩,po (Gy b hb'),⟨.src 1 (bI (Ad b)) ((Ad b).map Ah).length ((Ad b).map Ah).flatten,Cg Bp (AZ _)⟩,⟨.ap ((Ad 2).length+((Ad n).map Ah).length+((Ad a).map Ah).length) (((Ad b).map Ah).length) 1,⟨by simp;omega,by simp[maxLen];omega⟩⟩,pm ((show Leads I _ ⟨[(7,.s 103),(3,.i 0)],[(103,some ⟨5,some (1,(Ad 2).length+((Ad n).map Ah).length+((Ad a).map Ah).length+((Ad b).map Ah).length),(((Aa ((Ad 2).map Ah))++(((Ad n).map Ah).flatten.map It.b))++(((Ad a).map Ah).flatten.map It.b))++(((Ad b).map Ah).flatten.map It.b)⟩)],105⟩ ⟨[(7,.s 103),(3,.i 0)],[(103,some ⟨5,some (1,(Ad 2++Ad n++Ad a++Ad b).length),Aa ((Ad 2++Ad n++Ad a++Ad b).map Ah)⟩)],105⟩ from AL [] ⟨rfl,TVle.refl,rfl,TVle.refl,trivial⟩ ⟨rfl,rfl,(congrArg (fun m=>some (1,m)) (show (Ad 2).length+((Ad n).map Ah).length+((Ad a).map Ah).length+((Ad b).map Ah).length=(Ad 2++Ad n++Ad a++Ad b).length by simp only[List.length_append,List.length_map] <;> omega)),ILe.eq (show (((Aa ((Ad 2).map Ah))++(((Ad n).map Ah).flatten.map It.b))++(((Ad a).map Ah).flatten.map It.b))++(((Ad b).map Ah).flatten.map It.b)=Aa ((Ad 2++Ad n++Ad a++Ad b).map Ah) from by simp[Aa]),trivial⟩ (hnp:=⟨fun _=>BU (BU (BU (Aw _) (Aw _)) (Aw _)) (Aw _),trivial⟩))),pm (AX (I:=I) (t:=7) (k:=103) (E:=[(3,.i 0)]) (B:=[]) (nx:=105) (T:=5) (sz:=1) (n:=((Ad 2++Ad n++Ad a++Ad b).length)) ((Ad 2++Ad n++Ad a++Ad b).map Ah) rfl (by simp) Bp rfl)]
 ·exact sn 115 103 [pa,pa,pa,pa,pa,po (hn1),pa,po (hn2),pa,po (hn3),pa,po (hc),pa,pa,po (hsg),pa,pa,pa,pa,pon (M4 2 (by omega)),po (Gy n hn'),⟨.src 1 (bI (Ad n)) ((Ad n).map Ah).length ((Ad n).map Ah).flatten,Cg Bp (AZ _)⟩,⟨.ap ((Ad 2).length) (((Ad n).map Ah).length) 1,⟨by simp;omega,by simp[maxLen];omega⟩⟩,po (Gy a ha'),⟨.src 1 (bI (Ad a)) ((Ad a).map Ah).length ((Ad a).map Ah).flatten,Cg Bp (AZ _)⟩,⟨.ap ((Ad 2).length+((Ad n).map Ah).length) (((Ad a).map Ah).length) 1,⟨by simp;omega,by simp[maxLen];omega⟩⟩,po (Gy b hb'),⟨.src 1 (bI (Ad b)) ((Ad b).map Ah).length ((Ad b).map Ah).flatten,Cg Bp (AZ _)⟩,⟨.ap ((Ad 2).length+((Ad n).map Ah).length+((Ad a).map Ah).length) (((Ad b).map Ah).length) 1,⟨by simp;omega,by simp[maxLen];omega⟩⟩,pm ((show Leads I _ ⟨[(7,.s 103),(3,.i 0)],[(103,some ⟨5,some (1,(Ad 2).length+((Ad n).map Ah).length+((Ad a).map Ah).length+((Ad b).map Ah).length),(((Aa ((Ad 2).map Ah))++(((Ad n).map Ah).flatten.map It.b))++(((Ad a).map Ah).flatten.map It.b))++(((Ad b).map Ah).flatten.map It.b)⟩)],105⟩ ⟨[(7,.s 103),(3,.i 0)],[(103,some ⟨5,some (1,(Ad 2++Ad n++Ad a++Ad b).length),Aa ((Ad 2++Ad n++Ad a++Ad b).map Ah)⟩)],105⟩ from AL [] ⟨rfl,TVle.refl,rfl,TVle.refl,trivial⟩ ⟨rfl,rfl,(congrArg (fun m=>some (1,m)) (show (Ad 2).length+((Ad n).map Ah).length+((Ad a).map Ah).length+((Ad b).map Ah).length=(Ad 2++Ad n++Ad a++Ad b).length by simp only[List.length_append,List.length_map] <;> omega)),ILe.eq (show (((Aa ((Ad 2).map Ah))++(((Ad n).map Ah).flatten.map It.b))++(((Ad a).map Ah).flatten.map It.b))++(((Ad b).map Ah).flatten.map It.b)=Aa ((Ad 2++Ad n++Ad a++Ad b).map Ah) from by simp[Aa]),trivial⟩ (hnp:=⟨fun _=>BU (BU (BU (Aw _) (Aw _)) (Aw _)) (Aw _),trivial⟩)))] (Aw _)
theorem Aad {n:Nat}{z:Int}{q:Rat}(hn:n=0)(hz:BG z=true)(hsg:Sp Tryz.prog I 42 [fc c k q] (li 0)):Sp Tryz.prog I 14 [chK c k ⟨3,(n:Int),q,0,0,z⟩] (.tu [.t (bI (Ad 3++Ad n++Ad (zig z))),ci 0])∧SpN Tryz.prog I 14 [chK c k ⟨3,(n:Int),q,0,0,z⟩] (some [ci 0]) (bbx (Ad 3++Ad n++Ad (zig z))):=by
 have hn':n≤4611686018427387904:=by omega
 have h1:=AM (n:=3) (by omega)
 have h2:=AM hn';have hcz:=DE hz;have h3:=AM (Mr z (by omega) (by omega))
 have hn1:=AS (I:=I) (n:Int) true (by simp[Eh];omega)
 have hn2:=AS (I:=I) 0 true rfl;have hn3:=hn2;have hc:=EL (I:=I) z;rw[hz] at hc;constructor
 ·exact sr 115 [pa,pa,pa,pa,pa,pa,po (hn1),pa,po (hn2),pa,po (hn3),pa,po (hc),pa,pk (Ao 3 (n:Int) 0),pa,po (hsg),pa,pa,pa,pa,pa,pon (M4 3 (by omega)),po (Gy n hn'),⟨.src 1 (bI (Ad n)) ((Ad n).map Ah).length ((Ad n).map Ah).flatten,Cg Bp (AZ _)⟩,⟨.ap ((Ad 3).length) (((Ad n).map Ah).length) 1,⟨by simp;omega,by simp[maxLen];omega⟩⟩,po (Ab4 z hz),⟨.src 1 (bI (Ad (zig z))) ((Ad (zig z)).map Ah).length ((Ad (zig z)).map Ah).flatten,Cg Bp (AZ _)⟩,⟨.ap ((Ad 3).length+((Ad n).map Ah).length) (((Ad (zig z)).map Ah).length) 1,⟨by simp;omega,by simp[maxLen];omega⟩⟩,pm ((show Leads I _ ⟨[(7,.s 99),(3,.i 0)],[(99,some ⟨5,some (1,(Ad 3).length+((Ad n).map Ah).length+((Ad (zig z)).map Ah).length),((Aa ((Ad 3).map Ah))++(((Ad n).map Ah).flatten.map It.b))++(((Ad (zig z)).map Ah).flatten.map It.b)⟩)],101⟩ ⟨[(7,.s 99),(3,.i 0)],[(99,some ⟨5,some (1,(Ad 3++Ad n++Ad (zig z)).length),Aa ((Ad 3++Ad n++Ad (zig z)).map Ah)⟩)],101⟩ from AL [] ⟨rfl,TVle.refl,rfl,TVle.refl,trivial⟩ ⟨rfl,rfl,(congrArg (fun m=>some (1,m)) (show (Ad 3).length+((Ad n).map Ah).length+((Ad (zig z)).map Ah).length=(Ad 3++Ad n++Ad (zig z)).length by simp only[List.length_append,List.length_map] <;> omega)),ILe.eq (show ((Aa ((Ad 3).map Ah))++(((Ad n).map Ah).flatten.map It.b))++(((Ad (zig z)).map Ah).flatten.map It.b)=Aa ((Ad 3++Ad n++Ad (zig z)).map Ah) from by simp[Aa]),trivial⟩ (hnp:=⟨fun _=>BU (BU (Aw _) (Aw _)) (Aw _),trivial⟩))),pm (AX (I:=I) (t:=7) (k:=99) (E:=[(3,.i 0)]) (B:=[]) (nx:=101) (T:=5) (sz:=1) (n:=((Ad 3++Ad n++Ad (zig z)).length)) ((Ad 3++Ad n++Ad (zig z)).map Ah) rfl (by simp) Bp rfl)]
 ·exact sn 115 99 [pa,pa,pa,pa,pa,pa,po (hn1),pa,po (hn2),pa,po (hn3),pa,po (hc),pa,pk (Ao 3 (n:Int) 0),pa,po (hsg),pa,pa,pa,pa,pa,pon (M4 3 (by omega)),po (Gy n hn'),⟨.src 1 (bI (Ad n)) ((Ad n).map Ah).length ((Ad n).map Ah).flatten,Cg Bp (AZ _)⟩,⟨.ap ((Ad 3).length) (((Ad n).map Ah).length) 1,⟨by simp;omega,by simp[maxLen];omega⟩⟩,po (Ab4 z hz),⟨.src 1 (bI (Ad (zig z))) ((Ad (zig z)).map Ah).length ((Ad (zig z)).map Ah).flatten,Cg Bp (AZ _)⟩,⟨.ap ((Ad 3).length+((Ad n).map Ah).length) (((Ad (zig z)).map Ah).length) 1,⟨by simp;omega,by simp[maxLen];omega⟩⟩,pm ((show Leads I _ ⟨[(7,.s 99),(3,.i 0)],[(99,some ⟨5,some (1,(Ad 3).length+((Ad n).map Ah).length+((Ad (zig z)).map Ah).length),((Aa ((Ad 3).map Ah))++(((Ad n).map Ah).flatten.map It.b))++(((Ad (zig z)).map Ah).flatten.map It.b)⟩)],101⟩ ⟨[(7,.s 99),(3,.i 0)],[(99,some ⟨5,some (1,(Ad 3++Ad n++Ad (zig z)).length),Aa ((Ad 3++Ad n++Ad (zig z)).map Ah)⟩)],101⟩ from AL [] ⟨rfl,TVle.refl,rfl,TVle.refl,trivial⟩ ⟨rfl,rfl,(congrArg (fun m=>some (1,m)) (show (Ad 3).length+((Ad n).map Ah).length+((Ad (zig z)).map Ah).length=(Ad 3++Ad n++Ad (zig z)).length by simp only[List.length_append,List.length_map] <;> omega)),ILe.eq (show ((Aa ((Ad 3).map Ah))++(((Ad n).map Ah).flatten.map It.b))++(((Ad (zig z)).map Ah).flatten.map It.b)=Aa ((Ad 3++Ad n++Ad (zig z)).map Ah) from by simp[Aa]),trivial⟩ (hnp:=⟨fun _=>BU (BU (Aw _) (Aw _)) (Aw _),trivial⟩)))] (Aw _)
set_option maxRecDepth 100000 in
theorem Un (x : Ch) (hk : k ≤ 262144) (hw : Bm x = false) : Sp Tryz.prog I 14 [chK c k x] (.tu [.one (.z), ci 5]) := by
 have hc:=EL (I:=I) x.cost;by_cases hk1:x.kind=1
 ·cases h1 : Eh x.node with
  | false=>exact sr 115 [pk (Ar 3 x.kind 1),pk (Ag 3 x.kind 2),pk (Ag 3 x.kind 3),pa,po (AS x.node false h1),pa]
  | true =>
   cases h2:Eh x.fst with
   | false=>exact sr 115 [pk (Ar 3 x.kind 1),pk (Ag 3 x.kind 2),pk (Ag 3 x.kind 3),pa,po (AS x.node true h1),pa,po (AS x.fst false h2),pa]
   | true =>
    cases h3:Eh x.nxt with
    | false=>exact sr 115 [pk (Ar 3 x.kind 1),pk (Ag 3 x.kind 2),pk (Ag 3 x.kind 3),pa,po (AS x.node true h1),pa,po (AS x.fst true h2),pa,po (AS x.nxt false h3),pa]
    | true =>
     cases h4:BG x.cost with
     | false=>rw[h4] at hc;exact sr 115 [pk (Ar 3 x.kind 1),pk (Ag 3 x.kind 2),pk (Ag 3 x.kind 3),pa,po (AS x.node true h1),pa,po (AS x.fst true h2),pa,po (AS x.nxt true h3),pa,po (hc),pa]
     | true =>
      rw[h4] at hc;by_cases g6:x.fst≠0
      ·exact sr 115 [pk (Ar 3 x.kind 1),pk (Ag 3 x.kind 2),pk (Ag 3 x.kind 3),pa,po (AS x.node true h1),pa,po (AS x.fst true h2),pa,po (AS x.nxt true h3),pa,po (hc),pa,pa,pa,pk (AI 3 x.fst 0)]
      ·by_cases g7:x.nxt≠0
       ·exact sr 115 [pk (Ar 3 x.kind 1),pk (Ag 3 x.kind 2),pk (Ag 3 x.kind 3),pa,po (AS x.node true h1),pa,po (AS x.fst true h2),pa,po (AS x.nxt true h3),pa,po (hc),pa,pa,pa,pk (Ao 3 x.fst 0),pk (AI 3 x.nxt 0)]
       ·by_cases g8:x.cost≠0
        ·exact sr 115 [pk (Ar 3 x.kind 1),pk (Ag 3 x.kind 2),pk (Ag 3 x.kind 3),pa,po (AS x.node true h1),pa,po (AS x.fst true h2),pa,po (AS x.nxt true h3),pa,po (hc),pa,pa,pa,pk (Ao 3 x.fst 0),pk (Ao 3 x.nxt 0),pa,pk (AI 3 x.cost 0)]
        ·exfalso
         simp only[Decidable.not_not] at g6 g7 g8;revert hw;unfold Bm;simp[h1,h2,h3,h4,g6,g7,g8,hk1] <;> decide
 by_cases hk2:x.kind=2
 ·cases h1 : Eh x.node with
  | false=>exact sr 115 [pk (Ag 3 x.kind 1),pk (Ar 3 x.kind 2),pk (Ag 3 x.kind 3),pa,pa,po (AS x.node false h1),pa]
  | true =>
   cases h2:Eh x.fst with
   | false=>exact sr 115 [pk (Ag 3 x.kind 1),pk (Ar 3 x.kind 2),pk (Ag 3 x.kind 3),pa,pa,po (AS x.node true h1),pa,po (AS x.fst false h2),pa]
   | true =>
    cases h3:Eh x.nxt with
    | false=>exact sr 115 [pk (Ag 3 x.kind 1),pk (Ar 3 x.kind 2),pk (Ag 3 x.kind 3),pa,pa,po (AS x.node true h1),pa,po (AS x.fst true h2),pa,po (AS x.nxt false h3),pa]
    | true =>
     cases h4:BG x.cost with
     | false=>rw[h4] at hc;exact sr 115 [pk (Ag 3 x.kind 1),pk (Ar 3 x.kind 2),pk (Ag 3 x.kind 3),pa,pa,po (AS x.node true h1),pa,po (AS x.fst true h2),pa,po (AS x.nxt true h3),pa,po (hc),pa]
     | true =>
      rw[h4] at hc;by_cases g5:x.q.num.sign≠0
      ·exact sr 115 [pk (Ag 3 x.kind 1),pk (Ar 3 x.kind 2),pk (Ag 3 x.kind 3),pa,pa,po (AS x.node true h1),pa,po (AS x.fst true h2),pa,po (AS x.nxt true h3),pa,po (hc),pa,pa,po (Eu (c:=c) (k:=k) (p:=x.q) hk),pk (AI 3 x.q.num.sign 0)]
      ·by_cases g8:x.cost≠0
       ·exact sr 115 [pk (Ag 3 x.kind 1),pk (Ar 3 x.kind 2),pk (Ag 3 x.kind 3),pa,pa,po (AS x.node true h1),pa,po (AS x.fst true h2),pa,po (AS x.nxt true h3),pa,po (hc),pa,pa,po (Eu (c:=c) (k:=k) (p:=x.q) hk),pk (Ao 3 x.q.num.sign 0),pa,pa,pk (AI 3 x.cost 0)]
       ·exfalso
        simp only[Decidable.not_not] at g5 g8;revert hw;unfold Bm;simp[h1,h2,h3,h4,g5,g8,hk2] <;> decide
 by_cases hk3:x.kind=3
 ·cases h1 : Eh x.node with
  | false=>exact sr 115 [pk (Ag 3 x.kind 1),pk (Ag 3 x.kind 2),pk (Ar 3 x.kind 3),pa,pa,pa,po (AS x.node false h1),pa]
  | true =>
   cases h2:Eh x.fst with
   | false=>exact sr 115 [pk (Ag 3 x.kind 1),pk (Ag 3 x.kind 2),pk (Ar 3 x.kind 3),pa,pa,pa,po (AS x.node true h1),pa,po (AS x.fst false h2),pa]
   | true =>
    cases h3:Eh x.nxt with
    | false=>exact sr 115 [pk (Ag 3 x.kind 1),pk (Ag 3 x.kind 2),pk (Ar 3 x.kind 3),pa,pa,pa,po (AS x.node true h1),pa,po (AS x.fst true h2),pa,po (AS x.nxt false h3),pa]
    | true =>
     cases h4:BG x.cost with
     | false=>rw[h4] at hc;exact sr 115 [pk (Ag 3 x.kind 1),pk (Ag 3 x.kind 2),pk (Ar 3 x.kind 3),pa,pa,pa,po (AS x.node true h1),pa,po (AS x.fst true h2),pa,po (AS x.nxt true h3),pa,po (hc),pa]
     | true =>
      rw[h4] at hc;by_cases g4:x.node≠0
      ·exact sr 115 [pk (Ag 3 x.kind 1),pk (Ag 3 x.kind 2),pk (Ar 3 x.kind 3),pa,pa,pa,po (AS x.node true h1),pa,po (AS x.fst true h2),pa,po (AS x.nxt true h3),pa,po (hc),pa,pk (AI 3 x.node 0)]
      ·by_cases g5:x.q.num.sign≠0
       ·exact sr 115 [pk (Ag 3 x.kind 1),pk (Ag 3 x.kind 2),pk (Ar 3 x.kind 3),pa,pa,pa,po (AS x.node true h1),pa,po (AS x.fst true h2),pa,po (AS x.nxt true h3),pa,po (hc),pa,pk (Ao 3 x.node 0),pa,po (Eu (c:=c) (k:=k) (p:=x.q) hk),pk (AI 3 x.q.num.sign 0)]
       ·by_cases g6:x.fst≠0
        ·exact sr 115 [pk (Ag 3 x.kind 1),pk (Ag 3 x.kind 2),pk (Ar 3 x.kind 3),pa,pa,pa,po (AS x.node true h1),pa,po (AS x.fst true h2),pa,po (AS x.nxt true h3),pa,po (hc),pa,pk (Ao 3 x.node 0),pa,po (Eu (c:=c) (k:=k) (p:=x.q) hk),pk (Ao 3 x.q.num.sign 0),pa,pk (AI 3 x.fst 0)]
        ·by_cases g7:x.nxt≠0
         ·exact sr 115 [pk (Ag 3 x.kind 1),pk (Ag 3 x.kind 2),pk (Ar 3 x.kind 3),pa,pa,pa,po (AS x.node true h1),pa,po (AS x.fst true h2),pa,po (AS x.nxt true h3),pa,po (hc),pa,pk (Ao 3 x.node 0),pa,po (Eu (c:=c) (k:=k) (p:=x.q) hk),pk (Ao 3 x.q.num.sign 0),pa,pk (Ao 3 x.fst 0),pk (AI 3 x.nxt 0)]
         ·exfalso
          simp only[Decidable.not_not] at g4 g5 g6 g7;revert hw;unfold Bm;simp[h1,h2,h3,h4,g4,g5,g6,g7,hk3] <;> decide
 exact sr 115 [pk (Ag 3 x.kind 1),pk (Ag 3 x.kind 2),pk (Ag 3 x.kind 3),pa,pa,pa]
theorem Aag (x:Ch)(hk:k≤1000):Sp Tryz.prog I 14 [chK c k x] (.tu [.t (bI (Bs x).1),ci (Bs x).2])∧(((Bs x).2=0∧SpN Tryz.prog I 14 [chK c k x] (some [ci 0]) (bbx (Bs x).1))∨((Bs x).2≠0∧(Bs x).1=[]∧Sp Tryz.prog I 14 [chK c k x] (.tu [.one (.z),ci (Bs x).2]))):=by
 unfold Bs;cases hb:Bm x with
 | false =>
  rw[if_pos rfl];exact ⟨Wa (Un x (by omega) hb),.inr ⟨by decide,rfl,Un x (by omega) hb⟩⟩
 | true =>
  rw[if_neg (by decide)]
  obtain ⟨n,hn,e1,h⟩:=Mt hb;obtain ⟨kind,node,q,fst,nxt,cost⟩:=x;simp only at e1 h;subst e1;rcases h with ⟨rfl,rfl,rfl,rfl⟩ | ⟨rfl,hs,rfl,a,b,ha,hb',rfl,rfl⟩ | ⟨rfl,hs,rfl,rfl,h0,hz⟩
  ·obtain ⟨p1,p2⟩:=Aaf (I:=I) hn (Co q) (Mi q) (Ad6 (fun h=>AbS (c:=c) q hk h))
   by_cases hl:400 < (Co q).length
   ·rw[if_pos ⟨rfl,hl⟩]
    exact ⟨Wa (p2 hl),.inr ⟨by decide,rfl,p2 hl⟩⟩
   ·rw[if_neg (fun h=>hl h.2)]
    exact ⟨(p1 (by omega)).1,.inl ⟨rfl,(p1 (by omega)).2⟩⟩
  ·rw[if_neg (fun h=>by cases h.1)]
   have sg:=Eu (I:=I) (c:=c) (k:=k) (p:=q) (by omega)
   rw[hs] at sg;have:=Aae hn ha hb' sg;rw[List.append_assoc] at this;exact ⟨this.1,.inl ⟨rfl,this.2⟩⟩
  ·rw[if_neg (fun h=>by cases h.1)]
   have sg:=Eu (I:=I) (c:=c) (k:=k) (p:=q) (by omega)
   rw[hs] at sg;have:=Aad h0 hz sg;exact ⟨this.1,.inl ⟨rfl,this.2⟩⟩
end
def AbJ (l:List Nat):Int:=l.foldl (fun (a:Int) (c:Nat)=>a*10+((c:Int) - 48)) 0
def dv (s:List Nat)(i:Nat):Int:=if BV s then AbJ ((s.take i).drop 1) else AbJ (s.take i)
section
variable {I:WInv}{c c':Bool}{k j:Nat}{p q:Rat}
theorem Adl:Sp Tryz.prog I 151 [fc c 100 p,fc c' 100 q] (tfc true 201 (p+q)):=by
 have e:=LX (a:=p.num) (b:=(p.den:Int)) (c:=q.num) (d:=(q.den:Int)) (by have:=p.den_pos;omega) (by have:=q.den_pos;omega)
 rw[Cj,Cj] at e;rw[←e];exact sr 26 [po ((BJ (I:=I) (c:=c) (k:=100) (p:=p) (by omega)).rs (CN (k:=100) (q:=p)).tv),po ((BJ (I:=I) (c:=c') (k:=100) (p:=q) (by omega)).rs (CN (k:=100) (q:=q)).tv),po (Jd (I:=I) (k:=100) (j:=100) (a:=p.num) (b:=(q.den:Int)) (by omega)),po (Jd (I:=I) (k:=100) (j:=100) (a:=q.num) (b:=(p.den:Int)) (by omega)),po (Ab6 (I:=I) (k:=200) (j:=200) (m:=201) (a:=p.num*(q.den:Int)) (b:=q.num*(p.den:Int)) (by omega) (by omega) (by omega)),po (Jd (I:=I) (k:=100) (j:=100) (a:=(p.den:Int)) (b:=(q.den:Int)) (by omega)),po (Ni (I:=I) (k:=201) (j:=200) (m:=201) (a:=(p.num*(q.den:Int))+(q.num*(p.den:Int))) (b:=(p.den:Int)*(q.den:Int)) (by omega) (by omega) (by omega) (by omega))]
theorem AbW:Sp Tryz.prog I 117 [fc c 100 p,fc c' 100 q] (tfc true 201 (p - q)):=by
 rw[show p - q=p + -q by grind]
 exact sr 9 [po (Td (I:=I) (c:=c') (k:=100) (p:=q) (by omega)),po (Adl (I:=I) (c:=c) (c':=true) (p:=p) (q := -q))]
theorem AcX:Sp Tryz.prog I 74 [fc c 100 p,fc c' 100 q] (li (CJ p q)):=by
 rw[←Uc];exact sr 9 [po (AbW (I:=I) (c:=c) (c':=c') (p:=p) (q:=q)),po (Eu (I:=I) (c:=true) (k:=201) (p:=p - q) (by omega))]
theorem AdA {q':Rat}(h:Lq q j)(e:q'=q):CTle (fc true k q') (fc true j q):=by
 subst e;exact fun N w g v hv=>Jx h N w g v (YC N w g v hv)
end
theorem ZE (k:Nat)(hk:0 < k)(rest:List It):ILe (zl++rest) (.b (.it (fF false k 0))::rest):=by
 intro N w g l h;obtain ⟨l1,r1,e1,h1,l2,r2,e2,h2,l3,r3,e3,h3,l4,r4,e4,h4,h5⟩:=h;have h1:l1=[_]:=h1;have h2:l2=[_]:=h2;have h3:l3=[_]:=h3;have h4:l4=[_]:=h4;subst h1 h2 h3 h4 e4 e3 e2 e1;exact ⟨[.bool false,.slice none 0 0,.bool false,.slice none 0 0],r4,rfl,⟨0,0,[.bool false,.slice none 0 0],[.bool false,.slice none 0 0],rfl,Q5 N w,Q5 N w,by rw[Ms];rfl,hk,fun h=>by cases h⟩,h5⟩
abbrev chL (k n a b z:Int):CT := .ag [.i k,.i n,.o false,.z,.o false,.z,.i a,.i b,.i z]
theorem Adb (j:Nat)(hj:0 < j)(k n a b z:Int):CTle (chL k n a b z) (chK false j ⟨k,n,0,a,b,z⟩) :=
 (ILe.cons XLe.refl (ILe.cons XLe.refl (ZE j hj _))).ag
theorem AdB {c:Bool}{j k:Nat}{q:Rat}(h:Lq q j):XLe (.b (.it (fF true k q))) (.b (.it (fF c j q))):=by
 intro N w g l hl;have hv:(fc true k q).sem N w g (.agg l.toArray):=⟨l,rfl,l,[],(List.append_nil l).symm,hl,rfl⟩;obtain ⟨vs,e,l1,l2,e2,h1,h2⟩:=UF (c:=true) (c':=c) (k:=j) (k':=j) (q:=q) (fun _=>rfl) (Nat.le_refl _) rfl N w g _ (AdA h rfl N w g _ hv)
 have h2:l2=[]:=h2;injection e with e;have e:=congrArg Array.toList e;simp only at e;rw[e,e2,h2,List.append_nil];exact h1
theorem Ada {c:Bool}{j k:Nat}{x:Ch}(h:Lq x.q j):CTle (chK true k x) (chK c j x):=(ILe.cons XLe.refl (ILe.cons XLe.refl (ILe.cons (AdB h) ILe.refl))).ag
abbrev c8 (z:Int):CT := .one (.b (.lit (.int .u8 z)))
section
variable {I:WInv}
theorem AaC {xs:List Nat}(hx:B8 xs):Sp Tryz.prog I 60 [c8 7,.t (bI xs)] (.tu [.t (bI (frame 7 xs).1),ci (frame 7 xs).2]):=by
 intro N w vs _ hN hv;obtain ⟨v,r,rfl,h,v2,r2,rfl,h2,h3⟩:=hv;have h:[v]=[.int .u8 7]:=h;injection h with h;subst h;have h3:r2=[]:=h3;subst h3;obtain ⟨A,c,e1,g1,g2,g3⟩:=OZ h2;injection e1 with e1;subst e1;exact (Wo 7 w g1 hx (by omega)).mono fun e w' he=>JO he
theorem F3 {xs:List Nat}(hx:B8 xs)(hl:xs.length≤140737488355328):Sp Tryz.prog I 26 [.t (bI xs)] (.tu [c8 ((Bz xs).1:Nat),.t (bI (Bz xs).2.1),ci ((Bz xs).2.2.1:Nat),ci ((Bz xs).2.2.2:Nat)]):=by
 intro N w vs _ hN hv;obtain ⟨v,r,rfl,h,h'⟩:=hv;have h':r=[]:=h';subst h';obtain ⟨A,c,e1,h1,h2,h3⟩:=OZ h;injection e1 with e1;subst e1;refine (QB w h1 hx h2 hl h3).mono fun e w' ⟨v,he,ho⟩ => ?_
 subst he;exact ⟨_,rfl,⟨_,rfl,_,_,rfl,rfl,_,_,rfl,SX ho,_,_,rfl,rfl,_,_,rfl,rfl,rfl⟩,ho.2⟩
end
set_option maxRecDepth 100000 in
theorem Zr {A : Option Addr} {n c B : Nat} {xs : List Nat} (w : World) (r3 : Rd .u8 w B A n xs) (hx : ∀ x ∈ xs, x < 256) (hn : n ≤ 9223372036854775807) :
  Calls Tryz.prog 110 #[.slice A n c] w fun e w'=>e = .returned (.int .u32 (crc xs:Nat))∧w=w':=by
 have hl:=r3.len;have HL:=Lib.hid hl;clear hl;have Hx:=Lib.hid hx;clear hx;go_enter Tryz.func110,Tryz.ntmps110
 go_wp2
 go_loop [3,4,5] (fun s i _ => ∃ k:Nat,k≤n∧i = .int .i64 k∧s = .int .u32 (DU 4294967295 (xs.take k):Nat)) (fun _ i _=>n - (intOf i).toNat)
 case atStart=>exact ⟨0,by omega,rfl,rfl⟩
 case round =>
  obtain ⟨k,hk,rfl,rfl⟩:=hrel;by_cases hlt:k < n
  ·obtain ⟨b,off,rfl,hbB,hc⟩:=r3.at_ hlt
   have HS:=Lib.hid (LB 4294967295 (xs.take k) (xs.getD k 0));have hs:=FI (xs.take k) 4294967295 (by omega) (fun x h=>Hx.out x (List.mem_of_mem_take h))
   rw[←C3 xs k (by rw[HL.out];exact hlt)] at HS
   have hy:=Gg xs k 256 Hx.out (by omega)
   generalize DU 4294967295 (xs.take k)=s at *;generalize xs.getD k 0=y at *;have e1:=u32_xor_nat s y hs (by omega)
   have hi:(s ^^^ y) < 4294967296:=Nat.xor_lt_two_pow (n:=32) hs (by omega)
   generalize s ^^^ y=z at *;go_wp2
   go_loop [3,5] (fun r j => ∃ m:Nat,m≤8∧j = .int .i64 m∧r = .int .u32 (BA m z:Nat)) (fun _ j=>8 - (intOf j).toNat)
   case atStart=>exact ⟨0,by omega,rfl,rfl⟩
   case round =>
    obtain ⟨m,hm,rfl,rfl⟩:=hrel;have hlt:=EZ (r:=z) (by omega) m
    by_cases hm8:m < 8
    ·obtain ⟨r,hr⟩ : ∃ r,r=BA m z:=⟨_,rfl⟩
     rw[←hr] at hlt ⊢;have HT:Hid (BA (m+1) z=CP r):=by rw[hr];rfl
     clear hr;have hx:=QD r hlt;have ha:=Ou r hlt;by_cases hp:r % 2=1
     ·have ha':bits .and .u32 (r:Int) 1=1:=by rw[ha,hp];rfl
      have HP:=Lib.hid hp;clear ha hp;go_wp2
      go_round
      case rel=>exact ⟨m+1,by omega,by go_num,by rw[HT.out,CP,if_pos HP.out]⟩
      case measure=>simp[intOf];omega
     ·have ha':bits .and .u32 (r:Int) 1=0:=by rw[ha,show r % 2=0 by omega];rfl
      have HP:=Lib.hid hp;clear ha hp;go_wp2
      go_round
      case rel=>exact ⟨m+1,by omega,by go_num,by rw[HT.out,CP,if_neg HP.out];go_num⟩
      case measure=>simp[intOf];omega
    ·obtain rfl:m=8:=by omega
     go_wp2
     go_round
     case rel=>exact ⟨k+1,by omega,by go_num,by rw[HS.out]⟩
     case measure=>simp[intOf];omega
  ·obtain rfl:k=n:=by omega
   have hs:=FI (xs.take k) 4294967295 (by omega) (fun x h=>Hx.out x (List.mem_of_mem_take h))
   rw[List.take_of_length_le (by rw[HL.out];omega)] at hs ⊢
   have HC:Hid (crc xs=4294967295 - DU 4294967295 xs):=rfl;generalize DU 4294967295 xs=s at *;go_wp2
   go_ret
   refine ⟨?_,rfl⟩;rw[HC.out,←TQ s hs]
   rfl
set_option maxRecDepth 100000 in
theorem Ts {A:Option Addr}{n c:Nat}{xs:List Nat}(kind:Nat)(w:World)(hr:Rd .u8 w w.heap.size A n xs)(hx : ∀ x∈xs,x < 256)(hk:kind < 256)(hn:n≤1048576) :
  Calls Tryz.prog 62 #[.int .u8 kind,.slice A n c] w (NS .u8 5 w (BF kind xs)):=by
 have hl:=hr.len;have hb:=EU hk hx (by omega)
 have hfl:=Jj kind xs (by omega)
 have hel:=AM (n:=n) (by omega)
 have HF:Hid (BF kind xs=AY kind xs++Ee (crc (AY kind xs))):=rfl;have HH:Hid (AY kind xs=[kind]++Ad n++xs):=by rw[←hl];simp[AY,Hid]
 have Hx:=Lib.hid hx;have Hb:=Lib.hid hb;have HL:=Lib.hid hl;have hcl:=Qo (AY kind xs);clear hx hl hb;go_enter Tryz.func62,Tryz.ntmps62
 go_wp2_with fail
 have o0:=Own.new1 .u8 5 w kind (Below.refl _ _);refine (F4 n _ (by omega)).mono ?_
 rintro e w1 ⟨v1,rfl,o1⟩;obtain ⟨A1,n1,c1,rfl,r1,hc1,hd1⟩:=o1.form';have hn1:n1≤9:=by have:=r1.len;omega
 have o2:=o0.later o1.2;clear o1 o0;go_wp2_with (at_builtin;refine AB Tryz.elemU8w Tryz.underlying31 o2 r1 rfl rfl rfl rfl ?_ ?_ ?_)
 ·simp;omega
 ·simp;omega
 intro v4 w4 o4 _ _;clear o2;go_wp2_with (at_builtin;refine AB Tryz.elemU8w Tryz.underlying31 o4 (hr.below o4.below) rfl rfl rfl rfl ?_ ?_ ?_)
 ·simp;omega
 ·simp;omega
 intro v5 w5 o5 _ _;clear o4;have o5':Own .u8 5 w w5 v5 (AY kind xs):=by rw[HH.out];exact o5
 clear o5;obtain ⟨A5,n5,c5,rfl,r5,hc5,hd5⟩:=o5'.form';have hck:=Zr (c:=c5) w5 r5 Hb.out (by omega)
 generalize crc (AY kind xs)=sm at *;have HK:=Lib.hid hck;clear hck;go_wp2_with fail
 refine HK.out.mono ?_;rintro e w6 ⟨rfl,rfl⟩;clear HK r5;go_wp2_with (at_builtin;refine AB Tryz.elemU8w Tryz.underlying31 (o5'.alloc _) (Rd.block .u8 _ 5 _ (Ee sm) _ ?_) rfl rfl rfl rfl ?_ ?_ ?_)
 ·exact MB hcl
 ·simp[Ee];omega
 ·simp[Ee];omega
 intro v7 w7 o7 _ _;clear o5';go_wp2
 go_ret
 exact ⟨v7,rfl,by rw[HF.out];exact o7⟩
section
variable {I:WInv}
theorem Wp (kind:Nat)(hk:kind < 256){xs:List Nat}(hx:B8 xs)(hl:xs.length≤1048576):Sp Tryz.prog I 62 [c8 (kind:Int),.t (bI xs)] (tit (bI (BF kind xs))):=by
 intro N w vs _ hN hv;obtain ⟨v,r,rfl,h,v2,r2,rfl,h2,h3⟩:=hv;have h:[v]=[.int .u8 (kind:Int)]:=h;injection h with h;subst h;have h3:r2=[]:=h3;subst h3;obtain ⟨A,c,e1,g1,g2,g3⟩:=OZ h2;injection e1 with e1;subst e1;exact (Ts kind w g1 hx hk hl).mono fun e w' he=>JN he
end
section
variable {P:Program}
theorem Z3 (t:TypeId)(x y:Int)(b:Bool)(h:(!decide (x=y))=b):Bx P (.bin .neq t) [l8 x,l8 y] (lb b):=BE (vs:=[.int .u8 x,.int .u8 y]) fun w=>by subst h;simp[OpK.run,eqGuard,binOp,Op.intCmp];rfl
theorem Tw (w:World)(d:Nat){t e:TypeId}{c:Nat}(ht:P.underlying t=some (.slice e)):(Op.equalIn (d+1) t (.slice none 0 c) (.slice none 0 0)).run P w = .ok true w:=by
 simp[Op.equalIn,AP ht]
theorem Aax {t e:TypeId}(c:Nat)(ht:P.underlying t=some (.slice e)):Bx P (.bin .eql t) [B0 (.slice none 0 c),B0 (.slice none 0 0)] (lb true):=by
 intro N w g vs hv;obtain ⟨v,x,rfl,h1,h2⟩:=D4 hv;have h1:[v]=[.slice none 0 c]:=h1;have h2:[x]=[.slice none 0 0]:=h2;injection h1 with h1;injection h2 with h2;subst h1 h2;refine ⟨.bool true,w,?_,Below.refl _ _,(rfl:[_]=[_])⟩;have key:(Op.equal t (.slice none 0 c) (.slice none 0 0)).run P w = .ok true w:=Tw w 9999 ht;simp only[OpK.run,Sem.run_bind,eqGuard];simp[binOp,key]
end
def bS (xs:List Nat):Item where
 n:=1
 T:=fun N w l=>(bI xs).T N w l ∧ ∃ a n c,l=[.slice (some a) n c]
 step:=fun hw hN ⟨h,h2⟩=>⟨(bI xs).step hw hN h,h2⟩
 len:=fun ⟨h,_⟩=>(bI xs).len h
 one:=fun ⟨h,_⟩=>(bI xs).one h
theorem AdF (xs:List Nat):Bx Tryz.prog (.bin .eql 31) [tit (bS xs),B0 (.slice none 0 0)] (lb false):=by
 intro N w g vs hv;obtain ⟨v,x,rfl,⟨_,a,n,c,e1⟩,h2⟩:=D4 hv;injection e1 with e1;subst e1;have h2:[x]=[.slice none 0 0]:=h2;injection h2 with h2;subst h2;refine ⟨.bool false,w,?_,Below.refl _ _,(rfl:[_]=[_])⟩;have key:(Op.equal 31 (.slice (some a) n c) (.slice none 0 0)).run Tryz.prog w = .ok false w:=Kp w 9999 (e:=5) (by kernel_rfl)
 simp only[OpK.run,Sem.run_bind,eqGuard];simp[binOp,key]
theorem Adh (xs:List Nat):Vd 1 (bS xs) (xs.map Ah).length (xs.map Ah).flatten:=fun N w l h=>Cg Bp (AZ _) N w l h.1
section
variable {I:WInv}
theorem SpN.nil {P:Program}{f:FuncId}{args:List CT}(T s:Nat)(h:Sp P I f args (B0 (.slice none 0 0))):SpN P I f args none ⟨T,some (s,0),[]⟩:=by
 refine ⟨rfl,fun N w vs a1 a2 hv=>(h N w vs a1 a2 hv).mono ?_⟩
 rintro en w' ⟨v,e1,e2,e3⟩;have e2:[v]=[.slice none 0 0]:=e2;injection e2 with e2;subst e2;exact ⟨_,N,none,0,0,e1,fun b hb=>hb,fun b hb => .inl hb,⟨none,0,0,rfl,rfl⟩,⟨_,rfl,.inl ⟨s,0,rfl,rfl,rfl,rfl⟩⟩,e3⟩
theorem Aba {xs:List Nat}(hl:xs.length≤1000000000):SpN Tryz.prog I 61 [.t (bI xs)] none (bbx xs):=by
 have hlm:(xs.map Ah).length=xs.length:=List.length_map _;have h1:SpN Tryz.prog I 61 [.t (bS xs)] none ⟨5,some (1,0+(xs.map Ah).length),Aa (xs.map Ah)⟩:=sn 8 5 [pk (AdF xs),⟨.src 1 (bS xs) (xs.map Ah).length (xs.map Ah).flatten,Adh xs⟩,⟨.ap 0 ((xs.map Ah).length) 1,⟨by omega,by simp[maxLen];omega⟩⟩] (Aw _)
 rw[Nat.zero_add,hlm] at h1;have h2 : ∀ c,SpN Tryz.prog I 61 [.one (.b (.lit (.slice none 0 c)))] none ⟨5,some (1,0),[]⟩:=fun c=>SpN.nil _ _ (sr 8 [pk (Aax (t:=31) c (e:=5) (by kernel_rfl))])
 refine ⟨h1.1,fun N w vs a1 a2 hv => ?_⟩
 obtain ⟨v,r,rfl,h,h'⟩:=hv;obtain ⟨A,c,e,k1,k2,k3⟩:=h;cases A with
 | some a=>exact h1.2 N w _ a1 a2 ⟨_,_,rfl,⟨⟨_,c,e,k1,k2,k3⟩,a,_,c,e⟩,h'⟩
 | none =>
  have hx:xs=[]:=by
   cases xs with
   | nil=>rfl
   | cons x t=>obtain ⟨b,off,h,_⟩:=k3 (fun h=>by cases h);cases h
  subst hx;exact (h2 c).2 N w _ a1 a2 ⟨_,_,rfl,e,h'⟩
end
def GQ (b:List Nat)(x:Ch):List Nat×Int:=if (Bs x).2=0 then (b++BF 7 (Bs x).1,0) else ([],(Bs x).2)
theorem Ns (x:Ch)(h:(Bs x).2=0):frame 7 (Bs x).1=(BF 7 (Bs x).1,0)∧(BF 7 (Bs x).1).length≤1000:=by
 have hl:=GP x;have h9:=AM (n:=(Bs x).1.length) (by omega)
 refine ⟨by unfold frame;rw[if_pos (by omega)],?_⟩
 rw[Gi];omega
theorem Y3 (x:Ch):B8 (BF 7 (Bs x).1):=by
 have hl:=GP x;intro y hy;unfold BF at hy;rcases List.mem_append.1 hy with h | h
 ·exact EU (by omega) (Kc x) (by omega) y h
 ·exact Vx _ y h
section
variable {I:WInv}{c:Bool}{k:Nat}
theorem S5 (b:List Nat)(hb:b.length≤1000000000)(x:Ch)(hk:k≤1000):Sp Tryz.prog DG 22 [.t (bI b),chK c k x] (.tu [.t (bI (GQ b x).1),ci (GQ b x).2]):=by
 have hE:=YD (c:=c) (k:=k) x hk;have hF:=AaC (I:=DG) (Kc x);unfold GQ;by_cases h:(Bs x).2=0
 ·obtain ⟨f1,f2⟩:=Ns x h
  rw[f1] at hF;rw[h] at hE;rw[if_pos h];simp only at hF ⊢;generalize BF 7 (Bs x).1=f at *;generalize (Bs x).1=e at *;exact sr 29 [po (hE),pa,po (hF),pa,pon (Aba (xs:=b) (by omega)),⟨.src 1 (bI f) ((f).map Ah).length ((f).map Ah).flatten,Cg Bp (AZ _)⟩,⟨.ap ((b).length) (((f).map Ah).length) 1,⟨by simp;omega,by simp[maxLen];omega⟩⟩,pm ((show Leads DG _ ⟨[(4,.s 24),(5,.i 0)],[(24,some ⟨5,some (1,(b).length+((f).map Ah).length),(Aa ((b).map Ah))++(((f).map Ah).flatten.map It.b)⟩)],27⟩ ⟨[(4,.s 24),(5,.i 0)],[(24,some ⟨5,some (1,(b++f).length),Aa ((b++f).map Ah)⟩)],27⟩ from AL [] ⟨rfl,TVle.refl,rfl,TVle.refl,trivial⟩ ⟨rfl,rfl,(congrArg (fun m=>some (1,m)) (show (b).length+((f).map Ah).length=(b++f).length by simp only[List.length_append,List.length_map] <;> omega)),ILe.eq (show (Aa ((b).map Ah))++(((f).map Ah).flatten.map It.b)=Aa ((b++f).map Ah) from by simp[Aa]),trivial⟩ (hnp:=⟨fun _=>BU (Aw _) (Aw _),trivial⟩))),pm (AX (I:=DG) (t:=4) (k:=24) (E:=[(5,.i 0)]) (B:=[]) (nx:=27) (T:=5) (sz:=1) (n:=((b++f).length)) ((b++f).map Ah) rfl (by simp) Bp rfl)]
 ·rw[if_neg h]
  simp only;generalize (Bs x).2=r at *;generalize (Bs x).1=e at *;exact Wa (sr 29 [po (hE),pk (AI 32 r 0)])
theorem Aa7 {b:List Nat}{x:Ch}(h:(GQ b x).2=0):(Bs x).2=0∧GQ b x=(b++BF 7 (Bs x).1,0):=by
 unfold GQ at h ⊢;by_cases he:(Bs x).2=0
 ·exact ⟨he,by rw[if_pos he]⟩
 ·rw[if_neg he] at h;exact absurd h he
theorem VL (b:List Nat)(hb:b.length≤1000000000)(x:Ch)(hk:k≤1000):Sp Tryz.prog I 23 [.t (bI b),chK c k x] (.tu [.t (bI (GQ b x).1),ci (GQ b x).2]):=by
 have hE:=(Aag (I:=I) (c:=c) (k:=k) x hk).1;have hl:=GP x;have hF:=Wp (I:=I) 7 (by omega) (Kc x) (by omega)
 have hF:Sp Tryz.prog I 62 [c8 7,.t (bI (Bs x).1)] (tit (bI (BF 7 (Bs x).1))):=hF;unfold GQ;by_cases h:(Bs x).2=0
 ·obtain ⟨f1,f2⟩:=Ns x h
  rw[h] at hE;rw[if_pos h];simp only;clear f1;generalize BF 7 (Bs x).1=f at *;generalize (Bs x).1=e at *;exact sr 21 [po (hE),pa,⟨.src 1 (bI b) ((b).map Ah).length ((b).map Ah).flatten,Cg Bp (AZ _)⟩,⟨.ap 0 (((b).map Ah).length) 1,⟨by simp;omega,by simp[maxLen];omega⟩⟩,po (hF),⟨.src 1 (bI f) ((f).map Ah).length ((f).map Ah).flatten,Cg Bp (AZ _)⟩,⟨.ap (((b).map Ah).length) (((f).map Ah).length) 1,⟨by simp;omega,by simp[maxLen];omega⟩⟩,pm ((show Leads I _ ⟨[(4,.s 16),(5,.i 0)],[(16,some ⟨5,some (1,((b).map Ah).length+((f).map Ah).length),(((b).map Ah).flatten.map It.b)++(((f).map Ah).flatten.map It.b)⟩)],19⟩ ⟨[(4,.s 16),(5,.i 0)],[(16,some ⟨5,some (1,(b++f).length),Aa ((b++f).map Ah)⟩)],19⟩ from AL [] ⟨rfl,TVle.refl,rfl,TVle.refl,trivial⟩ ⟨rfl,rfl,(congrArg (fun m=>some (1,m)) (show ((b).map Ah).length+((f).map Ah).length=(b++f).length by simp only[List.length_append,List.length_map] <;> omega)),ILe.eq (show (((b).map Ah).flatten.map It.b)++(((f).map Ah).flatten.map It.b)=Aa ((b++f).map Ah) from by simp[Aa]),trivial⟩ (hnp:=⟨fun _=>BU (Aw _) (Aw _),trivial⟩))),pm (AX (I:=I) (t:=4) (k:=16) (E:=[(5,.i 0)]) (B:=[]) (nx:=19) (T:=5) (sz:=1) (n:=((b++f).length)) ((b++f).map Ah) rfl (by simp) Bp rfl)]
 ·rw[if_neg h]
  simp only;clear hF hl;generalize (Bs x).2=r at *;generalize (Bs x).1=e at *;exact Wa (sr 21 [po (hE),pk (AI 32 r 0)])
end
def ch0:Ch:=⟨0,0,0,0,0,0⟩
def cat (L:List Ch)(i:Nat):Ch:=L.getD i ch0
theorem Ds {L:List Ch}{i:Nat}(h:i < L.length):L[i]? = some (cat L i):=by unfold cat;rw[List.getD_eq_getElem?_getD,List.getElem?_eq_getElem h];rfl
theorem Du {L:List Ch}{i:Nat}{f:Ch→List It0}(h:i < L.length):(L.map f)[i]? = some (f (cat L i)):=map_some (Ds h)
def jfr (b:List Nat)(a:Nat)(y:Ch)(e:Nat):Prop := ∃ body used,Bz (b.drop a)=(7,body,used,0)∧Bs y=(body,0)∧e=a+used
structure Jr (b:List Nat) (cs:List Ch) (p:Nat→Nat):Prop where
 st : ∀ i,i < cs.length→jfr b (p i) (cat cs i) (p (i+1))
 en : ∀ y e,¬ jfr b (p cs.length) y e
theorem Xi {xs : List Nat} (h : (Bz xs).2.2.2 = 0) : 0 < (Bz xs).2.2.1 ∧ (Bz xs).2.2.1 ≤ xs.length := by
 unfold Bz at h ⊢;split
 ·rename_i h0;rw[if_pos h0] at h;cases h
 ·rename_i h0
  rw[if_neg h0] at h;split
  ·rename_i h1;rw[if_pos h1] at h;exact absurd h h1
  ·rename_i h1
   rw[if_neg h1] at h;split
   ·rename_i h2;rw[if_pos h2] at h;cases h
   ·rename_i h2
    rw[if_neg h2] at h;split
    ·rename_i h3;rw[if_pos h3] at h;cases h
    ·rename_i h3
     rw[if_neg h3] at h;split
     ·simp only;omega
     ·rename_i h4;rw[if_neg h4] at h;cases h
theorem Qd {b:List Nat}{a:Nat}{y:Ch}{e:Nat}(h:jfr b a y e):a < e∧e≤b.length:=by
 obtain ⟨body,used,h1,_,rfl⟩:=h;have:=Xi (xs:=b.drop a) (by rw[h1])
 rw[h1,List.length_drop] at this;simp only at this;omega
theorem Jr.mono {b:List Nat}{cs:List Ch}{p:Nat→Nat}(h:Jr b cs p)(h0:p 0=0) : ∀ i,i≤cs.length→i≤p i∧p i≤b.length
 | 0,_=>by rw[h0];omega
 | i+1,hi=>by
  have:=h.mono h0 i (by omega)
  have:=Qd (h.st i (by omega))
  omega
abbrev Bb (c:Bool)(k:Nat)(x:Ch):List It0:=[.lit (.int .i64 x.kind),.lit (.int .i64 x.node),.it (fF c k x.q),.lit (.int .i64 x.fst),.lit (.int .i64 x.nxt),.lit (.int .i64 x.cost)]
theorem XD {c:Bool}{k:Nat}{L:List Ch} : ∀ r∈L.map (Bb c k),Ce r=9:=by
 intro r hr;obtain ⟨x,_,rfl⟩:=List.mem_map.1 hr
 rfl
abbrev csI (c:Bool)(k:Nat)(L:List Ch):Item:=slI 9 (L.map (Bb c k))
abbrev cbx (c:Bool)(k:Nat)(L:List Ch):Ent:=⟨28,some (9,L.length),Aa (L.map (Bb c k))⟩
abbrev lbx (k:Nat):Ent:=⟨39,none,[.sl k]⟩
abbrev ibx (z:Int):Ent:=⟨3,none,[.i z]⟩
section
variable {I:WInv}{nt:Nat}
theorem Tb {E : Env} {B : Bxs} {k nx T T2 s : Nat} : Leads I nt ⟨E, (k, some ⟨T, none, [.z]⟩) :: B, nx⟩ ⟨E, (nx, some ⟨T2, some (s, 0), []⟩) :: (k, some ⟨T, none, [.sl nx]⟩) :: B, nx + 1⟩ := by
 rintro N0 w0 a w ⟨N,g,h1,h2⟩;have hfr:g nx=none:=h2 nx (Nat.le_refl _);have hx:=CC (v := .sl none 0 0) hfr;have old : ∀ j e,nx≠j→AE ((nx,some ⟨T2,some (s,0),[]⟩)::(k,some ⟨T,none,[.sl nx]⟩)::B) j=some e → ∃ e',AE ((k,some ⟨T,none,[.z]⟩)::B) j=some e':=by
  intro j e hj he;rw[Bf,if_neg hj,Bf] at he;rw[Bf];by_cases hk:k=j
  ·rw[if_pos hk];exact ⟨_,rfl⟩
  ·rw[if_neg hk] at he ⊢;exact ⟨e,he⟩
 refine ⟨N,upg g nx (.sl none 0 0),{ h1 with slots := ?_,boxes := ?_,inj := ?_,rig:=fun k v hv=>hx k v (h1.rig k v hv) },?_⟩
 ·intro q v hv
  exact TV.step (h1.slots q v hv) (WStep.refl _ _) (fun _ h=>h) hx
 ·intro j e he
  rw[Bf] at he;by_cases hk:nx=j
  ·subst hk
   rw[if_pos rfl] at he;injection he with he;subst he;exact ⟨_,Ct,.inl ⟨s,0,rfl,rfl,rfl,rfl⟩⟩
  ·rw[if_neg hk,Bf] at he
   by_cases hj:k=j
   ·subst hj
    rw[if_pos rfl] at he;injection he with he;subst he;have hb:=h1.boxes k ⟨T,none,[.z]⟩ (by rw[Bf,if_pos rfl])
    have hb:=hb.keep (WStep.refl _ _) (fun _ h=>h) (fun b hb2=>hb.notN hb2) (fun b hb=>rfl) hx
    obtain ⟨gv,r1,r2⟩:=hb;refine ⟨gv,r1,?_⟩;rcases r2 with ⟨s',n',q1,_⟩ | ⟨b,cs,l,q1,q2,q3,q4⟩
    ·cases q1
    ·refine .inr ⟨b,cs,l,q1,q2,?_,q4⟩
     obtain ⟨l1,l2,e1,e2,e3⟩:=q3;have e2:l1=[.slice none 0 0]:=e2;subst e2;exact ⟨_,_,e1,⟨none,0,0,Ct,rfl⟩,e3⟩
   ·rw[if_neg hj] at he
    have hb:=h1.boxes j e (by rw[Bf,if_neg hj];exact he)
    exact hb.keep (WStep.refl _ _) (fun _ h=>h) (fun b hb2=>hb.notN hb2) (fun b hb=>rfl) hx
 ·intro i j e e' b q1 q2 q3 q4
  by_cases hk:nx=i
  ·subst hk
   rw[Er] at q3;cases q3
  ·by_cases hj:nx=j
   ·subst hj
    rw[Er] at q4;cases q4
   ·obtain ⟨f1,p1⟩:=old i e hk q1
    obtain ⟨f2,p2⟩:=old j e' hj q2;unfold AJ at q3 q4;rw[CL (Ne.symm hk)] at q3;rw[CL (Ne.symm hj)] at q4;exact h1.inj i j f1 f2 b p1 p2 q3 q4
 ·intro k hk
  change nx+1≤k at hk
  show upg g nx _ k=none;rw[CL (by omega:k≠nx)]
  exact h2 k (show nx≤k by omega)
end
section
variable {I:WInv}{k:Nat}
theorem XO (L:List Ch)(hl:L.length≤1000000000)(x:Ch)(e u:Int):SpM Tryz.prog I 64 [(0,some (lbx 2)),(1,some (ibx u)),(2,some (cbx true k L))] [chK true k x,ci e,.one (.ptr 0 0),.one (.ptr 1 0)] [(0,some (lbx 2)),(1,some (ibx e)),(2,some (cbx true k (L++[x])))] (lb true) :=
 sm 12 [⟨.ap ((L).length) 1 104,⟨by omega,by simp[maxLen];omega⟩⟩,pm ((show Leads I _ ⟨[(1,.i e),(3,.p 1 0)],[(0,some ⟨39,none,[.sl 8]⟩),(1,some ⟨3,none,[.i u]⟩),(8,some ⟨28,some (9,(L).length+1),(Aa ((L).map (Bb true k)))++([.i x.kind,.i x.node,.b (.it (fF true k x.q)),.i x.fst,.i x.nxt,.i x.cost])⟩)],10⟩ ⟨[(1,.i e),(3,.p 1 0)],[(0,some ⟨39,none,[.sl 2]⟩),(1,some ⟨3,none,[.i u]⟩),(2,some ⟨28,some (9,(L++[x]).length),Aa (((L++[x])).map (Bb true k))⟩)],10⟩ from AL [(2,8)] ⟨rfl,TVle.refl,rfl,TVle.refl,trivial⟩ ⟨rfl,rfl,rfl,ILe.refl,rfl,rfl,rfl,ILe.refl,rfl,rfl,(congrArg (fun m=>some (9,m)) (show (L).length+1=(L++[x]).length by simp)),ILe.eq (show (Aa ((L).map (Bb true k)))++([.i x.kind,.i x.node,.b (.it (fF true k x.q)),.i x.fst,.i x.nxt,.i x.cost])=Aa (((L++[x])).map (Bb true k)) from by simp[Aa]),trivial⟩))]
end
theorem To {j:Nat}{y:Ch}{b:List Nat}(hy:Bs y=(b,0))(hj:Lq y.q j):Sp Tryz.prog Aq 16 [.t (bI b)] (.tu [chK true j y,ci 0]):=(Wk hy).rs (QG ⟨Ada hj,CTle.refl,trivial⟩)
theorem Xj {xs : List Nat} (h : B8 xs) : B8 (Bz xs).2.1 := by
 unfold Bz;split
 ·exact fun x hx=>by cases hx
 ·split
  ·exact fun x hx=>by cases hx
  ·split
   ·exact fun x hx=>by cases hx
   ·split
    ·exact fun x hx=>by cases hx
    ·split
     ·exact (h.drop _).take _
     ·exact fun x hx=>by cases hx
theorem TJ {a used e:Nat}(h:e=a+used)(hb:e≤4611686018427387904):Bx Tryz.prog (.bin .add 3) [li (a:Int),li (used:Int)] (li (e:Int)):=by
 have:=Ay (P:=Tryz.prog) 3 (a:Int) (used:Int) ⟨by omega,by omega⟩
 rwa [show (a:Int)+(used:Int)=(e:Int) by omega] at this
section
variable {k:Nat}
def est (k:Nat)(b:List Nat)(a:Int)(L:List Ch)(u:Int):Go.Proofs.YtdgbealknnmkoaaGreatDoor.St:=⟨[(0,.t (slI 1 ((b).map (Ah)))),(1,.cv (.one (.clo 64 [(0,0),(1,0)]))),(4,.i a)],[(0,some ⟨39,none,[.sl 2]⟩),(1,some ⟨3,none,[.i u]⟩),(2,some ⟨28,some (9,(L).length),Aa ((L).map (Bb true k))⟩)],50⟩
def AaK (k:Nat)(L:List Ch)(u:Int):Go.Proofs.YtdgbealknnmkoaaGreatDoor.St:=⟨[],[(0,some ⟨39,none,[.sl 2]⟩),(1,some ⟨3,none,[.i u]⟩),(2,some ⟨28,some (9,(L).length),Aa ((L).map (Bb true k))⟩)],50⟩
theorem AaL (b:List Nat)(hb:B8 b)(hl:b.length≤1000000000)(a:Nat)(L:List Ch)(hL:L.length≤1000000000)(u:Int)(y:Ch)(e:Nat)(h:jfr b a y e)(hk:Lq y.q k) :
  Rnd Tryz.prog Aq 44 (AK Tryz.prog 63 0) (est k b (a:Int) L u) .normal (est k b (e:Int) (L++[y]) (e:Int)):=by
 have hlt:=Qd h;obtain ⟨body,used,h1,h2,h3⟩:=h;have hU:=F3 (I:=Aq) (hb.drop a) (by rw[List.length_drop];omega)
 rw[h1] at hU;have hU:Sp Tryz.prog Aq 26 _ (.tu [c8 7,.t (bI body),ci (used:Int),ci 0]):=hU;have hD:=To h2 hk;have hA:=TJ h3 (by omega)
 have hC:=XO (I:=Aq) (k:=k) L hL y (e:Int) u;exact Rnd.nam [(2,90)] (show Rnd _ _ _ _ _ _ ⟨[(0,.t (slI 1 ((b).map (Ah)))),(1,.cv (.one (.clo 64 [(0,0),(1,0)]))),(4,.i (e:Int))],[(0,some ⟨39,none,[.sl 90]⟩),(1,some ⟨3,none,[.i (e:Int)]⟩),(90,some ⟨28,some (9,((L++[y])).length),Aa (((L++[y])).map (Bb true k))⟩)],92⟩ from rr [pk (Al 31 5 3 1 ((b).map (Ah)) ((b).length:Int)),pk (Ak 3 (a:Int) ((b).length:Int)),pk (Ea b a _ rfl (by omega)),po (hU),pa,pa,po (hD),pa,pk (hA),pom [0,1,2] (hC),pa]) (t:=⟨[(0,.t (slI 1 ((b).map (Ah)))),(1,.cv (.one (.clo 64 [(0,0),(1,0)]))),(4,.i (e:Int))],[(0,some ⟨39,none,[.sl 2]⟩),(1,some ⟨3,none,[.i (e:Int)]⟩),(2,some ⟨28,some (9,((L++[y])).length),Aa (((L++[y])).map (Bb true k))⟩)],50⟩) ⟨rfl,TVle.refl,rfl,TVle.refl,rfl,TVle.refl,trivial⟩ ⟨rfl,rfl,rfl,ILe.refl,rfl,rfl,rfl,ILe.refl,rfl,rfl,rfl,ILe.refl,trivial⟩
theorem Ww (b : List Nat) (hb : B8 b) (hl : b.length ≤ 1000000000) (a : Nat) (ha : a ≤ b.length) (L : List Ch) (u : Int) (h : ∀ y e, ¬ jfr b a y e) :
  Rnd Tryz.prog Aq 44 (AK Tryz.prog 63 0) (est k b (a:Int) L u) (.exit 0) (AaK k L u)∨Rnd Tryz.prog Aq 44 (AK Tryz.prog 63 0) (est k b (a:Int) L u) .ret (AaK k L u):=by
 by_cases hab:a < b.length
 ·right
  have hU:=F3 (I:=Aq) (hb.drop a) (by rw[List.length_drop];omega)
  have hb8:=Xj (hb.drop a);have hj : ∀ body used,Bz (b.drop a)=(7,body,used,0) → ∀ y,Bs y≠(body,0):=fun body used h1 y h2=>h y _ ⟨body,used,h1,h2,rfl⟩
  have hbl : (Bz (b.drop a)).2.1.length ≤ 1000000000 := by
   unfold Bz;split
   ·simp
   ·split
    ·simp
    ·split
     ·simp
     ·split
      ·simp
      ·split
       ·simp only[List.length_take,List.length_drop];omega
       ·simp
  generalize Bz (b.drop a)=r at *;obtain ⟨kd,body,used,o⟩:=r;simp only at hU hb8 hbl;by_cases ho:o=0
  ·subst ho
   have hU:Sp Tryz.prog Aq 26 _ (.tu [c8 (kd:Int),.t (bI body),ci (used:Int),ci 0]):=hU;by_cases hk7:kd=7
   ·subst hk7
    have hU:Sp Tryz.prog Aq 26 _ (.tu [c8 7,.t (bI body),ci (used:Int),ci 0]):=hU;have hD:=RH hb8 (hj body used rfl);exact Rnd.nam [] (show Rnd _ _ _ _ _ _ ⟨[],[(0,some ⟨39,none,[.sl 2]⟩),(1,some ⟨3,none,[.i u]⟩),(2,some ⟨28,some (9,(L).length),Aa ((L).map (Bb true k))⟩)],83⟩ from rr [pk (Al 31 5 3 1 ((b).map (Ah)) ((b).length:Int)),pk (Ak 3 (a:Int) ((b).length:Int)),pk (Ea b a _ rfl (by omega)),po (hU),pa,pa,po (hD),pa]) (t:=⟨[],[(0,some ⟨39,none,[.sl 2]⟩),(1,some ⟨3,none,[.i u]⟩),(2,some ⟨28,some (9,(L).length),Aa ((L).map (Bb true k))⟩)],50⟩) trivial ⟨rfl,rfl,rfl,ILe.refl,rfl,rfl,rfl,ILe.refl,rfl,rfl,rfl,ILe.refl,trivial⟩
   ·have hq:(!decide ((kd:Int)=7))=true:=by rw[decide_eq_false (by omega)];rfl
    exact Rnd.nam [] (show Rnd _ _ _ _ _ _ ⟨[],[(0,some ⟨39,none,[.sl 2]⟩),(1,some ⟨3,none,[.i u]⟩),(2,some ⟨28,some (9,(L).length),Aa ((L).map (Bb true k))⟩)],73⟩ from rr [pk (Al 31 5 3 1 ((b).map (Ah)) ((b).length:Int)),pk (Ak 3 (a:Int) ((b).length:Int)),pk (Ea b a _ rfl (by omega)),po (hU),pa,pk (Z3 5 (kd:Int) 7 true hq)]) (t:=⟨[],[(0,some ⟨39,none,[.sl 2]⟩),(1,some ⟨3,none,[.i u]⟩),(2,some ⟨28,some (9,(L).length),Aa ((L).map (Bb true k))⟩)],50⟩) trivial ⟨rfl,rfl,rfl,ILe.refl,rfl,rfl,rfl,ILe.refl,rfl,rfl,rfl,ILe.refl,trivial⟩
  ·exact Rnd.nam [] (show Rnd _ _ _ _ _ _ ⟨[],[(0,some ⟨39,none,[.sl 2]⟩),(1,some ⟨3,none,[.i u]⟩),(2,some ⟨28,some (9,(L).length),Aa ((L).map (Bb true k))⟩)],73⟩ from rr [pk (Al 31 5 3 1 ((b).map (Ah)) ((b).length:Int)),pk (Ak 3 (a:Int) ((b).length:Int)),pk (Ea b a _ rfl (by omega)),po (hU),pk (AI 32 (o:Int) 0)]) (t:=⟨[],[(0,some ⟨39,none,[.sl 2]⟩),(1,some ⟨3,none,[.i u]⟩),(2,some ⟨28,some (9,(L).length),Aa ((L).map (Bb true k))⟩)],50⟩) trivial ⟨rfl,rfl,rfl,ILe.refl,rfl,rfl,rfl,ILe.refl,rfl,rfl,rfl,ILe.refl,trivial⟩
 ·left
  exact Rnd.nam [] (show Rnd _ _ _ _ _ _ ⟨[],[(0,some ⟨39,none,[.sl 2]⟩),(1,some ⟨3,none,[.i u]⟩),(2,some ⟨28,some (9,(L).length),Aa ((L).map (Bb true k))⟩)],54⟩ from rr [pk (Al 31 5 3 1 ((b).map (Ah)) ((b).length:Int)),pk (Ai 3 (a:Int) ((b).length:Int))]) (t:=⟨[],[(0,some ⟨39,none,[.sl 2]⟩),(1,some ⟨3,none,[.i u]⟩),(2,some ⟨28,some (9,(L).length),Aa ((L).map (Bb true k))⟩)],50⟩) trivial ⟨rfl,rfl,rfl,ILe.refl,rfl,rfl,rfl,ILe.refl,rfl,rfl,rfl,ILe.refl,trivial⟩
theorem FL {L:List Ch}{i:Nat}(h:i < L.length):L.take (i+1)=L.take i++[cat L i]:=by
 rw[List.take_add_one,Ds h];rfl
theorem Wy (b:List Nat)(hb:B8 b)(hl:b.length≤1000000000){cs:List Ch}{p:Nat→Nat}(hj:Jr b cs p)(h0:p 0=0)(hk : ∀ i,i < cs.length→Lq (cat cs i).q k) :
  LoopTr Tryz.prog Aq 44 (AK Tryz.prog 63 0) (est k b 0 [] 0) (.exit 0) (AaK k cs (p cs.length:Int))∨LoopTr Tryz.prog Aq 44 (AK Tryz.prog 63 0) (est k b 0 [] 0) .ret (AaK k cs (p cs.length:Int)):=by
 have hm:=hj.mono h0;have step : ∀ i,i < cs.length→Rnd Tryz.prog Aq 44 (AK Tryz.prog 63 0) (est k b (p i:Int) (cs.take i) (p i:Int)) .normal (est k b (p (i+1):Int) (cs.take (i+1)) (p (i+1):Int)):=fun i hi=>by
  have h1:=hm i (by omega)
  have h2:=hm cs.length (Nat.le_refl _);rw[FL hi];exact AaL b hb hl (p i) (cs.take i) (by rw[List.length_take];omega) _ (cat cs i) _ (hj.st i hi) (hk i hi)
 have s0:est k b (p 0:Int) (cs.take 0) (p 0:Int)=est k b 0 [] 0:=by rw[h0];rfl
 have hend:=Ww (k:=k) b hb hl (p cs.length) (hm _ (Nat.le_refl _)).2 cs (p cs.length:Int) hj.en;rw[←s0];have e1:est k b (p cs.length:Int) (cs.take cs.length) (p cs.length:Int)=est k b (p cs.length:Int) cs (p cs.length:Int):=by rw[List.take_length]
 rcases hend with h | h
 ·left
  exact Bq (by simp) (fun i=>est k b (p i:Int) (cs.take i) (p i:Int)) cs.length step (by show Rnd _ _ _ _ (est k b (p cs.length:Int) (cs.take cs.length) (p cs.length:Int)) _ _;rw[e1];exact h)
 ·right
  exact Bq (by simp) (fun i=>est k b (p i:Int) (cs.take i) (p i:Int)) cs.length step (by show Rnd _ _ _ _ (est k b (p cs.length:Int) (cs.take cs.length) (p cs.length:Int)) _ _;rw[e1];exact h)
theorem Wx (b:List Nat)(hb:B8 b)(hl:b.length≤1000000000){cs:List Ch}{p:Nat→Nat}(hj:Jr b cs p)(h0:p 0=0)(hk : ∀ i,i < cs.length→Lq (cat cs i).q k) :
  SpM Tryz.prog Aq 63 [(0,some (lbx 2)),(1,some (ibx 0)),(2,some (cbx true k []))] [.t (bI b),.one (.clo 64 [(0,0),(1,0)])] [(0,some (lbx 2)),(1,some (ibx (p cs.length:Int))),(2,some (cbx true k cs))] (.tu []):=by
 have h:=Wy b hb hl hj h0 hk;generalize p cs.length=u at *;rcases h with lo | lo
 ·exact sm 44 [pl (lo)]
 ·exact sm 44 [pl (lo)]
theorem SP (b:List Nat)(hb:B8 b)(hl:b.length≤1000000000){cs:List Ch}{p:Nat→Nat}(hj:Jr b cs p)(h0:p 0=0)(hk : ∀ i,i < cs.length→Lq (cat cs i).q k) :
  Sp Tryz.prog Aq 24 [.t (bI b)] (.tu [.t (csI true k cs),ci (p cs.length:Int)]):=by
 have he:=Wx b hb hl hj h0 hk;generalize p cs.length=u at *;exact sr 11 [⟨.upd [.i 0] 0 [.i 0] [.i 0],rfl⟩,pm ((Tb (I:=Aq) (E:=[(0,.t (slI 1 ((b).map (Ah)))),(2,.cv (.one (.z))),(3,.i 0),(4,.p 2 0),(5,.p 3 0)]) (B:=[(3,some ⟨3,none,[.i 0]⟩)]) (k:=2) (nx:=5) (T:=39) (T2:=28) (s:=9))),pom [2,3,5] (he),⟨.part ([.sl 8]) 0 1 [.sl 8],rfl⟩,⟨.part ([.i (u:Int)]) 0 1 [.i (u:Int)],rfl⟩,pm (AX (I:=Aq) (t:=2) (k:=8) (E:=[(3,.i (u:Int))]) (B:=[]) (nx:=13) (T:=28) (sz:=9) (n:=((cs).length)) ((cs).map (Bb true k)) rfl (by simp) XD rfl)]
end
theorem WN (q:Rat):CJ q q=0:=by unfold CJ;simp
section
variable {I:WInv}{c c':Bool}{k j:Nat}{q:Rat}
theorem ZZ:Sp Tryz.prog I 55 [fc true k q,fc true j q] (lb true):=by
 have h:Sp Tryz.prog I 55 [.ag (ik k q.num++ik k (q.den:Int)),.ag (ik j q.num++ik j (q.den:Int))] (lb true):=sr 17 [po (P6 (I:=I) (k:=k) (j:=j) (a:=q.num) (b:=q.num) true (decide_eq_true rfl)),po (P6 (I:=I) (k:=k) (j:=j) (a:=(q.den:Int)) (b:=(q.den:Int)) true (decide_eq_true rfl))];exact h.wk ⟨CN,CN,trivial⟩
theorem AdU {p:Rat}(hk:k≤100)(hj:j≤100):Sp Tryz.prog I 74 [fc c k p,fc c' j q] (li (CJ p q)):=(AcX (c:=c) (c':=c')).wk ⟨UE hk,UE hj,trivial⟩
theorem Ack (x:Ch)(hk:k≤100)(hj:j≤100):Sp Tryz.prog I 54 [chK c k x,chK c' j x] (lb true):=sr 46 [pk (AO 3 x.kind x.kind true (decide_eq_true rfl)),pk (AO 3 x.node x.node true (decide_eq_true rfl)),pk (AO 3 x.fst x.fst true (decide_eq_true rfl)),pk (AO 3 x.nxt x.nxt true (decide_eq_true rfl)),pk (AO 3 x.cost x.cost true (decide_eq_true rfl)),po ((AdU (I:=I) (c:=c) (c':=c') (p:=x.q) (q:=x.q) hk hj)),pk (AO 3 (CJ x.q x.q) 0 true (decide_eq_true (WN x.q)))]
def cst (k:Nat)(c:Bool)(j:Nat)(cs:List Ch)(i:Int):Go.Proofs.YtdgbealknnmkoaaGreatDoor.St:=⟨[(0,.t (slI 9 ((cs).map (Bb true k)))),(1,.t (slI 9 ((cs).map (Bb c j)))),(5,.i i)],[],50⟩
theorem WO (cs:List Ch)(hl:cs.length≤1000000000)(hk:k≤100)(hj:j≤100):Sp Tryz.prog I 17 [.t (csI true k cs),.t (csI c j cs)] (lb true):=by
 have lo:LoopTr Tryz.prog I 50 (AK Tryz.prog 17 0) (cst k c j cs ((0:Nat):Int)) (.exit 0) ⟨[],[],50⟩:=by
  refine Bq (by simp) (fun i=>cst k c j cs (i:Int)) cs.length (fun i hi => ?_) ?_
  ·have hs:=Ack (I:=I) (c:=true) (c':=c) (cat cs i) hk hj
   have hc:=BJ (I:=I) (c:=c) (k:=j) (p:=(cat cs i).q) (by omega)
   by_cases h:(cat cs i).kind=1
   ·exact rr [pk (Al 39 28 3 9 ((cs).map (Bb true k)) ((cs).length:Int)),pk (Ak 3 (i:Int) ((cs).length:Int)),pk (Aj 39 28 9 ((cs).map (Bb true k)) i (i:Int) ((Bb true k) (cat cs i)) (Du hi)),pk (Aj 39 28 9 ((cs).map (Bb c j)) i (i:Int) ((Bb c j) (cat cs i)) (Du hi)),po (hs),pa,pk (Aj 39 28 9 ((cs).map (Bb true k)) i (i:Int) ((Bb true k) (cat cs i)) (Du hi)),pk (Ar 3 ((cat cs i).kind) 1),pk (Aj 39 28 9 ((cs).map (Bb true k)) i (i:Int) ((Bb true k) (cat cs i)) (Du hi)),pk (Aj 39 28 9 ((cs).map (Bb c j)) i (i:Int) ((Bb c j) (cat cs i)) (Du hi)),po (hc),po (ZZ (I:=I) (k:=k) (j:=j) (q:=(cat cs i).q)),pa,pk (Ay 3 (i:Int) 1 ⟨by omega,by omega⟩)]
   ·exact rr [pk (Al 39 28 3 9 ((cs).map (Bb true k)) ((cs).length:Int)),pk (Ak 3 (i:Int) ((cs).length:Int)),pk (Aj 39 28 9 ((cs).map (Bb true k)) i (i:Int) ((Bb true k) (cat cs i)) (Du hi)),pk (Aj 39 28 9 ((cs).map (Bb c j)) i (i:Int) ((Bb c j) (cat cs i)) (Du hi)),po (hs),pa,pk (Aj 39 28 9 ((cs).map (Bb true k)) i (i:Int) ((Bb true k) (cat cs i)) (Du hi)),pk (Ag 3 ((cat cs i).kind) 1),pk (Ay 3 (i:Int) 1 ⟨by omega,by omega⟩)]
  ·exact rr [pk (Al 39 28 3 9 ((cs).map (Bb true k)) ((cs).length:Int)),pk (Ai 3 ((cs).length:Int) ((cs).length:Int))]
 exact sr 50 [pk (Al 39 28 3 9 ((cs).map (Bb true k)) ((cs).length:Int)),pk (Al 39 28 3 9 ((cs).map (Bb c j)) ((cs).length:Int)),pk (Ao 3 ((cs).length:Int) ((cs).length:Int)),pl (lo)]
theorem AaG (xs:List Nat)(hx:B8 xs):Sp Tryz.prog I 15 [.t (bI xs),.t (bI xs)] (lb true) :=
 sr 10 [pk (Qz xs),pk (Qz xs),pk (Xt 9 xs xs true (decide_eq_true rfl) hx hx)]
end
def jby:List Ch→List Nat
 | []=>[]
 | x::r=>BF 7 (Bs x).1++jby r
theorem Kd : ∀ (a b:List Ch),jby (a++b)=jby a++jby b
 | [],b=>rfl
 | x::a,b=>by rw[List.cons_append,jby,jby,Kd a b,List.append_assoc]
theorem Md (x:Ch):jby [x]=BF 7 (Bs x).1:=by rw[jby,jby,List.append_nil]
theorem Ld : ∀ cs:List Ch,B8 (jby cs)
 | []=>fun x hx=>by cases hx
 | x::r=>(Y3 x).app (Ld r)
theorem Me : ∀ cs:List Ch,(∀ x∈cs,(Bs x).2=0)→(jby cs).length≤1000*cs.length
 | [],_=>by simp[jby]
 | x::r,h=>by
  have h1:=(Ns x (h x (by simp))).2
  have h2:=Me r (fun y hy=>h y (by simp[hy]))
  rw[jby,List.length_append,List.length_cons];omega
def Ek (cs:List Ch)(i:Nat):Nat:=(jby (cs.take i)).length
theorem Hr (cs:List Ch):Ek cs 0=0:=rfl
theorem Kb (cs:List Ch):Ek cs cs.length=(jby cs).length:=by unfold Ek;rw[List.take_length]
theorem Lb {cs:List Ch}{i:Nat}(h:i < cs.length):Ek cs (i+1)=Ek cs i+(BF 7 (Bs (cat cs i)).1).length:=by
 unfold Ek;rw[FL h,Kd,Md,List.length_append]
theorem Lc {cs:List Ch} : ∀ {i j:Nat},i≤j→j≤cs.length→Ek cs i≤Ek cs j
 | i,0,h,_=>by rw[show i=0 by omega];omega
 | i,j+1,h,hj=>by
  by_cases e:i=j+1
  ·rw[e];omega
  ·have:=Lc (cs:=cs) (i:=i) (j:=j) (by omega) (by omega)
   rw[Lb (by omega)]
   omega
theorem Yr (cs:List Ch)(i:Nat):(jby cs).drop (Ek cs i)=jby (cs.drop i):=by
 have:jby cs=jby (cs.take i)++jby (cs.drop i):=by rw[←Kd,List.take_append_drop]
 rw[this];exact List.drop_left
theorem Ys {cs:List Ch}{i:Nat}(h:i < cs.length):(jby cs).drop (Ek cs i)=BF 7 (Bs (cat cs i)).1++jby (cs.drop (i+1)):=by
 rw[Yr];have:cs.drop i=cat cs i::cs.drop (i+1):=by
  have e:=Ds h;rw[List.getElem?_eq_getElem h] at e;injection e with e;rw[←e];exact List.drop_eq_getElem_cons h
 rw[this,jby]
theorem Wj {x:Ch}(h:(Bs x).2=0):Bs x=((Bs x).1,0):=by rw[←h]
theorem Tl (cs:List Ch)(ok : ∀ x∈cs,(Bs x).2=0)(k:Nat)(m:Nat)(hm:m≤cs.length)(h1:Ek cs m≤k)(h2:m < cs.length→k < Ek cs (m+1)):Jr ((jby cs).take k) (cs.take m) (Ek cs):=by
 have ok' : ∀ i,i < cs.length→(Bs (cat cs i)).2=0:=fun i hi=>ok _ (List.mem_of_getElem? (Ds hi))
 have hlen:(cs.take m).length=m:=by rw[List.length_take];omega
 constructor
 ·intro i hi
  rw[hlen] at hi;have e1:cat (cs.take m) i=cat cs i:=by
   have a:=Ds (L:=cs.take m) (i:=i) (by omega)
   rw[List.getElem?_take,if_pos hi,Ds (by omega)] at a
   injection a with a;exact a.symm
  rw[e1];have hk:=Lc (cs:=cs) (i:=i+1) (j:=m) (by omega) hm
  have hs:=Lb (cs:=cs) (i:=i) (by omega)
  have ho:=ok' i (by omega)
  have hl:=GP (cat cs i);refine ⟨(Bs (cat cs i)).1,(BF 7 (Bs (cat cs i)).1).length,?_,Wj ho,hs⟩;rw[List.drop_take,Ys (by omega),List.take_append,List.take_of_length_le (by omega)]
  exact Pj 7 _ _ (by omega)
 ·rintro y e ⟨body,used,h3,_⟩
  rw[hlen,List.drop_take] at h3;by_cases hlt:m < cs.length
  ·have hs:=Lb (cs:=cs) (i:=m) hlt
   have hl:=GP (cat cs m);have:=h2 hlt;rw[Ys hlt,List.take_append_of_le_length (by omega),QA 7 _ _ (by omega) (by omega)] at h3
   cases h3
  ·have e0:(jby cs).drop (Ek cs m)=[]:=by
    rw[show m=cs.length by omega,Kb]
    exact List.drop_eq_nil_of_le (Nat.le_refl _)
   rw[e0,List.take_nil] at h3;simp[Bz] at h3
theorem AdP (cs:List Ch)(k:Nat) : ∃ m,m≤cs.length∧Ek cs m≤k∧(m < cs.length→k < Ek cs (m+1)):=by
 have : ∀ n,n≤cs.length→(∃ m,m≤cs.length∧Ek cs m≤k∧(m < cs.length→k < Ek cs (m+1)))∨Ek cs n≤k:=by
  intro n;induction n with
  | zero=>intro _;right;rw[Hr];omega
  | succ n ih =>
   intro hn;rcases ih (by omega) with h | h
   ·exact .inl h
   ·by_cases h2:Ek cs (n+1)≤k
    ·exact .inr h2
    ·exact .inl ⟨n,by omega,h,fun _=>by omega⟩
 rcases this cs.length (Nat.le_refl _) with h | h
 ·exact h
 ·exact ⟨cs.length,Nat.le_refl _,h,fun h2=>absurd h2 (Nat.lt_irrefl _)⟩
theorem AcE (cs:List Ch)(ok : ∀ x∈cs,(Bs x).2=0):Jr (jby cs) cs (Ek cs):=by
 have:=Tl cs ok (jby cs).length cs.length (Nat.le_refl _) (by rw[Kb];exact Nat.le_refl _) (fun h=>absurd h (Nat.lt_irrefl _))
 rwa [List.take_length,List.take_length] at this
def kx5:Ch:=⟨3,0,0,0,0,5⟩
theorem Aa6:Bs kx5=([3,0,10],0):=by
 have h:Bm kx5=true:=by decide +kernel
 unfold Bs;rw[h,if_neg (by decide),if_neg (fun h=>absurd h.1 (by decide))]
 show (Ad 3++Ad 0++OI kx5,(0:Int))=_;have e:OI kx5=Ad 10:=rfl;rw[e,Dh (by omega),Dh (by omega),Dh (by omega)]
 rfl
theorem Ad7 (k:Nat)(h:0 < k):Lq kx5.q k:=⟨GN k,Fi h,h⟩
theorem Qc:Sp Tryz.prog Aq 12 [] (lb true):=by
 have e0:=Aa6;have hok : ∀ x∈[kx5],(Bs x).2=0:=fun x hx=>by rw[List.mem_singleton.1 hx,e0]
 have hlen:(jby [kx5]).length=9:=by
  rw[Md,Gi,e0];simp only[List.length_cons,List.length_nil];rw[Dh (by omega)]
  rfl
 have ha:=(S5 (c:=false) (k:=12) [] (by simp) kx5 (by omega)).inv SD
 have hj:GQ [] kx5=(jby [kx5],0):=by
  unfold GQ;rw[e0,if_pos rfl,Md,e0]
  rfl
 rw[hj] at ha;have ha:=ha.wk (args':=[.one (.z),chL 3 0 0 0 5]) ⟨XLe.one PS,Adb 12 (by omega) 3 0 0 0 5,trivial⟩
 have p1:Ek [kx5] 1=9:=by rw[←hlen];exact Kb [kx5]
 have hk : ∀ i,i < [kx5].length→Lq (cat [kx5] i).q 12:=fun i hi=>by
  have:i=0:=by simp at hi;exact hi
  subst this;exact Ad7 12 (by omega)
 have r1:=SP (k:=12) (jby [kx5]) (Ld _) (by omega) (AcE [kx5] hok) rfl hk
 have hc0':=Tl [kx5] hok 8 0 (by simp) (by rw[Hr];omega) (fun _=>by rw[p1];omega)
 have r2:=SP (k:=12) ((jby [kx5]).take 8) ((Ld _).take 8) (by rw[List.length_take];omega) hc0' rfl (fun i hi=>by simp at hi)
 have r1:Sp Tryz.prog Aq 24 _ (.tu [.t (csI true 12 [kx5]),ci (Ek [kx5] 1:Int)]):=r1;rw[p1] at r1;have r2:Sp Tryz.prog Aq 24 _ (.tu [.t (csI true 12 []),ci 0]):=r2;have hcl:[kx5].length=1:=rfl;have h5:(cat [kx5] 0).cost=5:=rfl;have hc0:0 < [kx5].length:=by decide
 have hdl:([]:List Ch).length=0:=rfl;generalize [kx5]=cs at *;generalize ([]:List Ch)=ds at *;generalize jby cs=b at *;exact sr 58 [po (ha),pa,pk (Al 31 5 3 1 ((b).map (Ah)) ((b).length:Int)),pk (Ai 3 ((b).length:Int) 5),po (r1),pk (Al 31 5 3 1 ((b).map (Ah)) ((b).length:Int)),pk (Sz 3 ((b).length:Int) 1 ⟨by omega,by omega⟩),pk (Gr b 8 (((b).length:Int) - 1) (by omega) (by omega)),po (r2),pk (Al 39 28 3 9 ((cs).map (Bb true 12)) ((cs).length:Int)),pk (Ar 3 ((cs).length:Int) 1),pk (Aj 39 28 9 ((cs).map (Bb true 12)) 0 0 ((Bb true 12) (cat cs 0)) (Du hc0)),pk (AO 3 ((cat cs 0).cost) 5 true (decide_eq_true h5)),pk (Al 31 5 3 1 ((b).map (Ah)) ((b).length:Int)),pk (AO 3 (9:Int) ((b).length:Int) true (decide_eq_true (by omega))),pk (Al 39 28 3 9 ((ds).map (Bb true 12)) ((ds).length:Int)),pk (Ar 3 ((ds).length:Int) 0),pa]
def trA (q:Rat)(cs:List Ch):List Nd×Bool×Int:=cs.foldl (fun T x=>apS T.1 T.2.1 T.2.2 x) (CS q,false,0)
theorem Gz (q:Rat)(cs:List Ch)(x:Ch):trA q (cs++[x])=apS (trA q cs).1 (trA q cs).2.1 (trA q cs).2.2 x:=by unfold trA;rw[List.foldl_append];rfl
def okA (q:Rat)(cs:List Ch):Prop := ∀ i,i < cs.length→apC (trA q (cs.take i)).1 (trA q (cs.take i)).2.1 (trA q (cs.take i)).2.2 (cat cs i)=0
theorem Zu {L M:List Ch}{i:Nat}(h:i < L.length):cat (L++M) i=cat L i:=by
 unfold cat;rw[List.getD_eq_getElem?_getD,List.getElem?_append_left h,←List.getD_eq_getElem?_getD]
theorem Zv (L:List Ch)(x:Ch):cat (L++[x]) L.length=x:=by
 unfold cat;rw[List.getD_eq_getElem?_getD,List.getElem?_append_right (Nat.le_refl _),Nat.sub_self];rfl
theorem XZ {q:Rat}{cs:List Ch}{x:Ch}(h:okA q cs)(hx:apC (trA q cs).1 (trA q cs).2.1 (trA q cs).2.2 x=0):okA q (cs++[x]):=by
 intro i hi;rw[List.length_append,List.length_singleton] at hi;by_cases e:i=cs.length
 ·rw[e,Zv,List.take_left]
  exact hx
 ·rw[List.take_append_of_le_length (by omega),Zu (by omega)]
  exact h i (by omega)
theorem Hq {q:Rat}(hq:okc q=true){cs:List Ch}(h:okA q cs) : ∀ i,i≤cs.length→tvc (trA q (cs.take i)).1 (trA q (cs.take i)).2.1 (trA q (cs.take i)).2.2=0
 | 0,_=>Pq.2 ⟨0,XE hq⟩
 | i+1,hi=>by
  rw[FL (by omega),Gz]
  exact (Z7 (h i (by omega))).2.2.2
theorem Abf (n:Int):Lq (LO n).q 12:=by
 have h0:Lq 0 12:=⟨GN 12,Fi (by omega),by omega⟩
 unfold LO;split
 ·exact RQ _
 ·split
  ·exact h0
  ·split
   ·exact h0
   ·exact h0
def jnP (l:List Int):Nat→List Ch
 | 0=>[]
 | k+1=>if apC (trA (BB (atS l 0)) (jnP l k)).1 (trA (BB (atS l 0)) (jnP l k)).2.1 (trA (BB (atS l 0)) (jnP l k)).2.2 (LO (atS l (k+1)))=0∧(Bs (LO (atS l (k+1)))).2=0 then jnP l k++[LO (atS l (k+1))] else jnP l k
structure Jok (q:Rat) (n:Nat) (cs:List Ch):Prop where
 len:cs.length≤n
 enc : ∀ x∈cs,(Bs x).2=0
 lq : ∀ x∈cs,Lq x.q 12
 ap:okA q cs
theorem Tn (l:List Int) : ∀ k,Jok (BB (atS l 0)) k (jnP l k)
 | 0=>⟨Nat.le_refl _,(fun x hx=>by cases hx),(fun x hx=>by cases hx),(fun i hi=>by cases hi)⟩
 | k+1=>by
  have ih:=Tn l k;rw[jnP];by_cases h:apC (trA (BB (atS l 0)) (jnP l k)).1 (trA (BB (atS l 0)) (jnP l k)).2.1 (trA (BB (atS l 0)) (jnP l k)).2.2 (LO (atS l (k+1)))=0∧(Bs (LO (atS l (k+1)))).2=0
  ·rw[if_pos h]
   refine ⟨by rw[List.length_append,List.length_singleton];have:=ih.len;omega,fun x hx => ?_,fun x hx => ?_,XZ ih.ap h.1⟩
   ·rcases List.mem_append.1 hx with hx | hx
    ·exact ih.enc x hx
    ·rw[List.mem_singleton.1 hx];exact h.2
   ·rcases List.mem_append.1 hx with hx | hx
    ·exact ih.lq x hx
    ·rw[List.mem_singleton.1 hx];exact Abf _
  ·rw[if_neg h]
   exact ⟨by have:=ih.len;omega,ih.enc,ih.lq,ih.ap⟩
def jnN (l:List Int):Nat:=if 10≤l.length - 1 then 10 else l.length - 1
def jnS (l:List Int):List Ch:=jnP l (jnN l)
theorem Yq (l:List Int):Jok (BB (atS l 0)) 10 (jnS l):=by
 have h:=Tn l (jnN l);have:jnN l≤10:=by unfold jnN;split <;> omega
 exact ⟨by have:=h.len;unfold jnS;omega,h.enc,h.lq,h.ap⟩
theorem RI (cs:List Ch)(x:Ch)(h:(Bs x).2=0):GQ (jby cs) x=(jby (cs++[x]),0):=by
 unfold GQ;rw[if_pos h,Kd,Md]
section
variable {I:WInv}
def jst (l:List Int)(b:List Nat)(cs:List Ch)(L:List Nd)(f:Bool)(z:Int)(i:Int):Go.Proofs.YtdgbealknnmkoaaGreatDoor.St:=⟨[(0,.t (slI 1 ((l).map (Ae)))),(4,.p 2 0),(5,.p 7 0),(6,.s 40),(7,.t (slI 1 ((b).map (Ah)))),(8,.i i)],[(2,some ⟨46,none,[.z,.o false,.i 0]⟩),(7,some ⟨46,none,[.b (.it (slI 9 ((L).map (Ac true)))),.o f,.i z]⟩),(40,some ⟨28,some (9,(cs).length),Aa ((cs).map (Bb false 12))⟩)],50⟩
def AdQ (b:List Nat)(cs:List Ch)(L:List Nd)(f:Bool)(z:Int):Go.Proofs.YtdgbealknnmkoaaGreatDoor.St:=⟨[(4,.p 2 0),(5,.p 7 0),(6,.s 40),(7,.t (slI 1 ((b).map (Ah))))],[(2,some ⟨46,none,[.z,.o false,.i 0]⟩),(7,some ⟨46,none,[.b (.it (slI 9 ((L).map (Ac true)))),.o f,.i z]⟩),(40,some ⟨28,some (9,(cs).length),Aa ((cs).map (Bb false 12))⟩)],50⟩
theorem Tm (l:List Int)(hl:l.length≤35184372087808)(b:List Nat)(hb:b.length≤1000000)(cs:List Ch)(hc:cs.length≤100000)(L:List Nd)(f:Bool)(z:Int)(k:Nat)(h1:k < 10)(h2:k+1 < l.length)(hn:L.length≤2000)(x:Ch)(hx:x=LO (atS l (k+1))) :
  (apC L f z x=0→(GQ b x).2=0→Rnd Tryz.prog I 58 (AK Tryz.prog 20 0) (jst l b cs L f z ((k+1:Nat):Int)) .normal (jst l (GQ b x).1 (cs++[x]) (apS L f z x).1 (apS L f z x).2.1 (apS L f z x).2.2 ((k+1+1:Nat):Int))) ∧
  (¬ (apC L f z x=0∧(GQ b x).2=0)→Rnd Tryz.prog I 58 (AK Tryz.prog 20 0) (jst l b cs L f z ((k+1:Nat):Int)) .normal (jst l b cs L f z ((k+1+1:Nat):Int))):=by
 have hch:=AcY (I:=I) l (k+1) (by omega) hl
 rw[←hx] at hch;have hap:=O6 (I:=I) (c:=true) (c':=false) L f z (by omega) x
 have hje:=VL (I:=I) (c:=false) (k:=12) b (by omega) x (by omega)
 generalize apS L f z x=S at *;generalize apC L f z x=r at *;generalize GQ b x=J at *;obtain ⟨b2,r2⟩:=J;simp only at hje ⊢;refine ⟨fun e1 e2 => ?_,fun hno => ?_⟩
 ·subst e1 e2
  exact Rnd.nam [(40,91)] (show Rnd _ _ _ _ _ _ ⟨[(0,.t (slI 1 ((l).map (Ae)))),(4,.p 2 0),(5,.p 7 0),(6,.s 91),(7,.t (slI 1 ((b2).map (Ah)))),(8,.i ((k+1+1:Nat):Int))],[(2,some ⟨46,none,[.z,.o false,.i 0]⟩),(7,some ⟨46,none,[.b (.it (slI 9 ((S.1).map (Ac true)))),.o S.2.1,.i S.2.2]⟩),(91,some ⟨28,some (9,(cs).length+1),(Aa ((cs).map (Bb false 12)))++([.i x.kind,.i x.node,.b (.it (fF false 12 x.q)),.i x.fst,.i x.nxt,.i x.cost])⟩)],98⟩ from rr [pk (Ha 3 ((k+1:Nat):Int) 10),pk (Al 40 3 3 1 ((l).map (Ae)) ((l).length:Int)),pk (Ak 3 ((k+1:Nat):Int) ((l).length:Int)),po (hch),po (hap),po (hje),pa,pa,⟨.ap ((cs).length) 1 104,⟨by omega,by simp[maxLen];omega⟩⟩,pk (Ay 3 ((k+1:Nat):Int) 1 ⟨by omega,by omega⟩)]) (t:=⟨[(0,.t (slI 1 ((l).map (Ae)))),(4,.p 2 0),(5,.p 7 0),(6,.s 40),(7,.t (slI 1 ((b2).map (Ah)))),(8,.i ((k+1+1:Nat):Int))],[(2,some ⟨46,none,[.z,.o false,.i 0]⟩),(7,some ⟨46,none,[.b (.it (slI 9 ((S.1).map (Ac true)))),.o S.2.1,.i S.2.2]⟩),(40,some ⟨28,some (9,(cs++[x]).length),Aa (((cs++[x])).map (Bb false 12))⟩)],50⟩) ⟨rfl,TVle.refl,rfl,TVle.refl,rfl,TVle.refl,rfl,TVle.refl,rfl,TVle.refl,rfl,TVle.refl,trivial⟩ ⟨rfl,rfl,rfl,ILe.refl,rfl,rfl,rfl,ILe.refl,rfl,rfl,(congrArg (fun m=>some (9,m)) (show (cs).length+1=(cs++[x]).length by simp)),ILe.eq (show (Aa ((cs).map (Bb false 12)))++([.i x.kind,.i x.node,.b (.it (fF false 12 x.q)),.i x.fst,.i x.nxt,.i x.cost])=Aa (((cs++[x])).map (Bb false 12)) from by simp[Aa]),trivial⟩
 ·by_cases h0:r=0
  ·subst h0
   have hr2 : ¬ r2=0:=fun h=>hno ⟨rfl,h⟩
   exact Rnd.nam [] (show Rnd _ _ _ _ _ _ ⟨[(0,.t (slI 1 ((l).map (Ae)))),(4,.p 2 0),(5,.p 7 0),(6,.s 40),(7,.t (slI 1 ((b).map (Ah)))),(8,.i ((k+1+1:Nat):Int))],[(2,some ⟨46,none,[.z,.o false,.i 0]⟩),(7,some ⟨46,none,[.b (.it (slI 9 ((L).map (Ac true)))),.o f,.i z]⟩),(40,some ⟨28,some (9,(cs).length),Aa ((cs).map (Bb false 12))⟩)],89⟩ from rr [pk (Ha 3 ((k+1:Nat):Int) 10),pk (Al 40 3 3 1 ((l).map (Ae)) ((l).length:Int)),pk (Ak 3 ((k+1:Nat):Int) ((l).length:Int)),po (hch),po (hap),po (hje),pa,pk (Ag 32 r2 0),pk (Ay 3 ((k+1:Nat):Int) 1 ⟨by omega,by omega⟩)]) (t:=⟨[(0,.t (slI 1 ((l).map (Ae)))),(4,.p 2 0),(5,.p 7 0),(6,.s 40),(7,.t (slI 1 ((b).map (Ah)))),(8,.i ((k+1+1:Nat):Int))],[(2,some ⟨46,none,[.z,.o false,.i 0]⟩),(7,some ⟨46,none,[.b (.it (slI 9 ((L).map (Ac true)))),.o f,.i z]⟩),(40,some ⟨28,some (9,(cs).length),Aa ((cs).map (Bb false 12))⟩)],50⟩) ⟨rfl,TVle.refl,rfl,TVle.refl,rfl,TVle.refl,rfl,TVle.refl,rfl,TVle.refl,rfl,TVle.refl,trivial⟩ ⟨rfl,rfl,rfl,ILe.refl,rfl,rfl,rfl,ILe.refl,rfl,rfl,rfl,ILe.refl,trivial⟩
  ·exact Rnd.nam [] (show Rnd _ _ _ _ _ _ ⟨[(0,.t (slI 1 ((l).map (Ae)))),(4,.p 2 0),(5,.p 7 0),(6,.s 40),(7,.t (slI 1 ((b).map (Ah)))),(8,.i ((k+1+1:Nat):Int))],[(2,some ⟨46,none,[.z,.o false,.i 0]⟩),(7,some ⟨46,none,[.b (.it (slI 9 ((L).map (Ac true)))),.o f,.i z]⟩),(40,some ⟨28,some (9,(cs).length),Aa ((cs).map (Bb false 12))⟩)],89⟩ from rr [pk (Ha 3 ((k+1:Nat):Int) 10),pk (Al 40 3 3 1 ((l).map (Ae)) ((l).length:Int)),pk (Ak 3 ((k+1:Nat):Int) ((l).length:Int)),po (hch),po (hap),po (hje),pk (Ag 32 r 0),pk (Ay 3 ((k+1:Nat):Int) 1 ⟨by omega,by omega⟩)]) (t:=⟨[(0,.t (slI 1 ((l).map (Ae)))),(4,.p 2 0),(5,.p 7 0),(6,.s 40),(7,.t (slI 1 ((b).map (Ah)))),(8,.i ((k+1+1:Nat):Int))],[(2,some ⟨46,none,[.z,.o false,.i 0]⟩),(7,some ⟨46,none,[.b (.it (slI 9 ((L).map (Ac true)))),.o f,.i z]⟩),(40,some ⟨28,some (9,(cs).length),Aa ((cs).map (Bb false 12))⟩)],50⟩) ⟨rfl,TVle.refl,rfl,TVle.refl,rfl,TVle.refl,rfl,TVle.refl,rfl,TVle.refl,rfl,TVle.refl,trivial⟩ ⟨rfl,rfl,rfl,ILe.refl,rfl,rfl,rfl,ILe.refl,rfl,rfl,rfl,ILe.refl,trivial⟩
theorem Wi (l:List Int)(hl:l.length≤35184372087808):LoopTr Tryz.prog I 58 (AK Tryz.prog 20 0) (jst l [] [] (CS (BB (atS l 0))) false 0 ((0+1:Nat):Int)) (.exit 0) (AdQ (jby (jnS l)) (jnS l) (trA (BB (atS l 0)) (jnS l)).1 (trA (BB (atS l 0)) (jnS l)).2.1 (trA (BB (atS l 0)) (jnS l)).2.2):=by
 refine Bq (by simp) (fun k=>jst l (jby (jnP l k)) (jnP l k) (trA (BB (atS l 0)) (jnP l k)).1 (trA (BB (atS l 0)) (jnP l k)).2.1 (trA (BB (atS l 0)) (jnP l k)).2.2 ((k+1:Nat):Int)) (jnN l) (fun k hk => ?_) ?_
 ·have hk2:k < 10∧k+1 < l.length:=by unfold jnN at hk;split at hk <;> omega
  have hok:=Tn l k;have hbl:=Me (jnP l k) hok.enc;have hlen:=hok.len;have ht:=Hq (Nt _) hok.ap (jnP l k).length (Nat.le_refl _);rw[List.take_length] at ht;have hb:=(DM ht).2.1;obtain ⟨r1,r2⟩:=Tm (I:=I) l hl (jby (jnP l k)) (by omega) (jnP l k) (by omega) (trA (BB (atS l 0)) (jnP l k)).1 (trA (BB (atS l 0)) (jnP l k)).2.1 (trA (BB (atS l 0)) (jnP l k)).2.2 k hk2.1 hk2.2 hb _ rfl
  rw[jnP];by_cases h:apC (trA (BB (atS l 0)) (jnP l k)).1 (trA (BB (atS l 0)) (jnP l k)).2.1 (trA (BB (atS l 0)) (jnP l k)).2.2 (LO (atS l (k+1)))=0∧(Bs (LO (atS l (k+1)))).2=0
  ·rw[if_pos h,Gz]
   have e:=RI (jnP l k) _ h.2;have:=r1 h.1 (by rw[e])
   rw[e] at this;exact this
  ·rw[if_neg h]
   refine r2 fun hh=>h ⟨hh.1,?_⟩
   exact (Aa7 hh.2).1
 ·show Rnd Tryz.prog I _ _ (jst l (jby (jnS l)) (jnS l) (trA (BB (atS l 0)) (jnS l)).1 (trA (BB (atS l 0)) (jnS l)).2.1 (trA (BB (atS l 0)) (jnS l)).2.2 ((jnN l+1:Nat):Int)) _ _
  have hk:jnN l=10∨(jnN l < 10∧(l.length=jnN l+1∨l.length=0)):=by unfold jnN;split <;> omega
  generalize trA (BB (atS l 0)) (jnS l)=S at *;obtain ⟨L,f,z⟩:=S
  dsimp only
  generalize jby (jnS l)=b at *;generalize jnS l=cs at *;generalize jnN l=k at *;rcases hk with hk | ⟨hk,hk2⟩
  ·exact Rnd.nam [] (show Rnd _ _ _ _ _ _ ⟨[(4,.p 2 0),(5,.p 7 0),(6,.s 40),(7,.t (slI 1 ((b).map (Ah))))],[(2,some ⟨46,none,[.z,.o false,.i 0]⟩),(7,some ⟨46,none,[.b (.it (slI 9 ((L).map (Ac true)))),.o f,.i z]⟩),(40,some ⟨28,some (9,(cs).length),Aa ((cs).map (Bb false 12))⟩)],58⟩ from rr [pk (J6 3 ((k+1:Nat):Int) 10)]) (t:=⟨[(4,.p 2 0),(5,.p 7 0),(6,.s 40),(7,.t (slI 1 ((b).map (Ah))))],[(2,some ⟨46,none,[.z,.o false,.i 0]⟩),(7,some ⟨46,none,[.b (.it (slI 9 ((L).map (Ac true)))),.o f,.i z]⟩),(40,some ⟨28,some (9,(cs).length),Aa ((cs).map (Bb false 12))⟩)],50⟩) ⟨rfl,TVle.refl,rfl,TVle.refl,rfl,TVle.refl,rfl,TVle.refl,trivial⟩ ⟨rfl,rfl,rfl,ILe.refl,rfl,rfl,rfl,ILe.refl,rfl,rfl,rfl,ILe.refl,trivial⟩
  ·exact Rnd.nam [] (show Rnd _ _ _ _ _ _ ⟨[(4,.p 2 0),(5,.p 7 0),(6,.s 40),(7,.t (slI 1 ((b).map (Ah))))],[(2,some ⟨46,none,[.z,.o false,.i 0]⟩),(7,some ⟨46,none,[.b (.it (slI 9 ((L).map (Ac true)))),.o f,.i z]⟩),(40,some ⟨28,some (9,(cs).length),Aa ((cs).map (Bb false 12))⟩)],58⟩ from rr [pk (Ha 3 ((k+1:Nat):Int) 10),pk (Al 40 3 3 1 ((l).map (Ae)) ((l).length:Int)),pk (Ai 3 ((k+1:Nat):Int) ((l).length:Int))]) (t:=⟨[(4,.p 2 0),(5,.p 7 0),(6,.s 40),(7,.t (slI 1 ((b).map (Ah))))],[(2,some ⟨46,none,[.z,.o false,.i 0]⟩),(7,some ⟨46,none,[.b (.it (slI 9 ((L).map (Ac true)))),.o f,.i z]⟩),(40,some ⟨28,some (9,(cs).length),Aa ((cs).map (Bb false 12))⟩)],50⟩) ⟨rfl,TVle.refl,rfl,TVle.refl,rfl,TVle.refl,rfl,TVle.refl,trivial⟩ ⟨rfl,rfl,rfl,ILe.refl,rfl,rfl,rfl,ILe.refl,rfl,rfl,rfl,ILe.refl,trivial⟩
theorem Yp (l:List Int)(q:Rat):Leads I 58 ⟨[(6,.cv (.one (.z))),(7,.cv (.one (.z))),(0,.t (slI 1 ((l).map (Ae)))),(4,.p 2 0),(5,.p 7 0),(8,.i 1)],[(2,some ⟨46,none,[.z,.o false,.i 0]⟩),(7,some ⟨46,none,[.b (.it (slI 9 (((CS q)).map (Ac true)))),.o false,.i 0]⟩)],49⟩ (jst l [] [] (CS q) false 0 ((0+1:Nat):Int)) :=
 (show Leads I 58 ⟨[(6,.cv (.one (.z))),(7,.cv (.one (.z))),(0,.t (slI 1 ((l).map (Ae)))),(4,.p 2 0),(5,.p 7 0),(8,.i 1)],[(2,some ⟨46,none,[.z,.o false,.i 0]⟩),(7,some ⟨46,none,[.b (.it (slI 9 (((CS q)).map (Ac true)))),.o false,.i 0]⟩)],49⟩ ⟨[(6,.cv (.one (.z))),(7,.t (slI 1 ((([]:List Nat)).map (Ah)))),(0,.t (slI 1 ((l).map (Ae)))),(4,.p 2 0),(5,.p 7 0),(8,.i 1)],[(2,some ⟨46,none,[.z,.o false,.i 0]⟩),(7,some ⟨46,none,[.b (.it (slI 9 (((CS q)).map (Ac true)))),.o false,.i 0]⟩)],49⟩ from Mx ⟨rfl,TVle.refl,rfl,(XLe.one PS).tv,rfl,TVle.refl,rfl,TVle.refl,rfl,TVle.refl,rfl,TVle.refl,trivial⟩ ⟨rfl,rfl,rfl,ILe.refl,rfl,rfl,rfl,ILe.refl,trivial⟩).trans ((Gb (t:=6) (k:=40) 28 9 rfl (by repeat' first | exact trivial | exact fun h=>absurd h Bool.false_ne_true | exact fun _=>Aw _ | exact fun _=>rfl | exact fun _=>BU (Aw _) rfl | refine ⟨?_,?_⟩) rfl rfl).trans (Ju ⟨rfl,rfl,rfl,rfl,rfl,rfl,trivial⟩ ⟨rfl,rfl,rfl,trivial⟩))
theorem U6 (l:List Int)(hl:l.length≤35184372087808):Sp Tryz.prog I 20 [.t (slI 1 (l.map Ae))] (.tu [.t (csI false 12 (jnS l)),.t (bI (jby (jnS l))),trT true (trA (BB (atS l 0)) (jnS l)).1 (trA (BB (atS l 0)) (jnS l)).2.1 (trA (BB (atS l 0)) (jnS l)).2.2]):=by
 have ha:=UW (I:=I) l 0 (by omega) hl
 have hf:=Mf (I:=I) (atS l 0);have hnw:=Uj (I:=I) (c:=true) (BB (atS l 0));have lo:=LoopTr.pre (Yp (I:=I) l (BB (atS l 0))) (Wi (I:=I) l hl);generalize trA (BB (atS l 0)) (jnS l)=S at *;obtain ⟨L,f,z⟩:=S
 dsimp only at lo ⊢
 generalize jby (jnS l)=b at *;generalize jnS l=cs at *;generalize BB (atS l 0)=q at *;generalize atS l 0=n at *;exact sr 58 [po (ha),po (hf),po (hnw),pl (lo),⟨.part ([.b (.it (slI 9 ((L).map (Ac true)))),.o f,.i z]) 0 3 [.b (.it (slI 9 ((L).map (Ac true)))),.o f,.i z],rfl⟩,⟨.upd [.z,.o false,.i 0] 0 [.b (.it (slI 9 ((L).map (Ac true)))),.o f,.i z] [.b (.it (slI 9 ((L).map (Ac true)))),.o f,.i z],rfl⟩,pm (AX (I:=I) (t:=2) (k:=40) (E:=[(3,.t (slI 1 ((b).map (Ah)))),(4,.p 2 0)]) (B:=[(2,some ⟨46,none,[.b (.it (slI 9 ((L).map (Ac true)))),.o f,.i z]⟩)]) (nx:=56) (T:=28) (sz:=9) (n:=((cs).length)) ((cs).map (Bb false 12)) rfl (by simp) XD rfl)]
end
end Go.Proofs.YtdgbealknnmkoaaGreatDoor
