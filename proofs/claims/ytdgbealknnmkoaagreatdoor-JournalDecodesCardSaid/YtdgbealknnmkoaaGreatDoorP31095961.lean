/- Texts of one proof, put together by a program: each lemma is proved for all values of its variables, under the premises that it states. -/
import Derived.Test.YtdgbealknnmkoaaGreatDoorP35f7018e
import Derived.Test.YtdgbealknnmkoaaGreatDoorP48d04ff7
import Derived.Test.YtdgbealknnmkoaaGreatDoorP1c8a0c47
import Derived.Test.YtdgbealknnmkoaaGreatDoorP5d856719
set_option linter.unusedVariables false
set_option linter.unusedSimpArgs false
namespace Go.Proofs.YtdgbealknnmkoaaGreatDoor
open Go Go.RowKit
def Ct (z:Int):List Nat:=Dl (decide (z < 0)) z.natAbs
theorem UT {N:Nat→Prop}{w w':World}{z code:Int}{e:Ending}(h:D5 w z code e w') : ∃ v,e = .returned v∧(TV.tu [.ag (ic z),ci code]).sem (Nx N w w') w' G0 v∧Below w.heap.size w w':=by
 obtain ⟨s,A,n,c,e1,h1,h2⟩:=h;exact ⟨_,e1,⟨_,rfl,_,_,rfl,⟨[.bool s,.slice A n c],rfl,CD ⟨s,A,n,c,rfl,h1⟩⟩,_,_,rfl,rfl,rfl⟩,h2⟩
theorem Li (w:World)(n:Nat):Below w.heap.size w (w.drewN n):=⟨rfl,rfl,rfl,Nat.le_refl _,fun _ _=>rfl⟩
section
variable {I:WInv}{x:List It}{z code:Int}
theorem Aba (hx:Num x z):Sp Tryz.prog D4 91 [.ag x] (tS (Ct z)):=AbZ hx
theorem Xg (hx:Num x z):Sp Tryz.prog I 96 [.ag x] (tS (Ct z)):=by
 intro N w vs hI _ hv;obtain ⟨l,rfl,h1⟩:=Ox hv;obtain ⟨s,A,n,c,rfl,h2,h3⟩:=hx N w l h1;have e:AM (Ct z)=AM (Dl s z.natAbs):=(TT h2.sign_eq).symm;unfold tS;rw[e];exact (Nj w h2 (by omega)).mono fun e w' he=>J4 he
theorem C8 {xs:List Nat}(hx:B8 xs)(hp:PA xs z code)(hl:xs.length≤9223372036854775807):Sp Tryz.prog I 101 [cS xs] (.tu [.ag (ic z),ci code]):=by
 intro N w vs _ _ hv;rw[Kg hv];exact (Vi (AM xs) w (by rw[hx.bo];exact hp) (by rw[BB];exact hl)).mono fun e w' he=>UT he
theorem AcM (n:Nat)(hn:n≤1000):Sp Tryz.prog I 144 [cS [48],ci (n:Int)] (tS (List.replicate n 48)):=by
 intro N w vs _ _ hv;obtain ⟨v,r,rfl,h1,v2,r2,rfl,h3,h4⟩:=hv;have h1:[v]=[.string (AM [48])]:=h1;have h3:[v2]=[.int .i64 (n:Int)]:=h3;injection h1 with h1;injection h3 with h3;obtain rfl:r2=[]:=h4;subst h1 h3;refine (Tryz.strings_Repeat (AM [48]) n w (by omega) (by rw[BB];simp;omega)).mono ?_
 rintro e w' ⟨rfl,hb⟩;have e1 : ∀ n,Lib.repeatL (AM [48]).data.toList n=(List.replicate n 48).map UInt8.ofNat:=by
  intro n;rw[Cc];induction n with
  | zero=>rfl
  | succ n ih=>rw[Lib.repeatL,ih,List.replicate_succ,List.map_cons];rfl
 rw[e1];exact ⟨_,rfl,(rfl:[_]=[_]),hb⟩
theorem Q3 (xs:List Nat)(hx:B8 xs):Lib.hasPrefix (xs.map UInt8.ofNat) [UInt8.ofNat 45]=BD xs:=by
 unfold Lib.hasPrefix BD;cases xs with
 | nil=>rfl
 | cons a l =>
  have ha:=hx a (by simp)
  simp only[List.map_cons,List.isPrefixOf,List.getD_cons_zero,Bool.and_true];by_cases h:a=45
  ·subst h;rfl
  ·have h1:(UInt8.ofNat 45 == UInt8.ofNat a)=false:=by
    rw[beq_eq_false_iff_ne];exact fun h'=>h ((Sn (by omega) ha).1 h').symm
   rw[h1];have h2:(a == 45)=false:=by rw[beq_eq_false_iff_ne];exact h
   rw[h2]
theorem XL {xs:List Nat}(hx:B8 xs):Sp Tryz.prog I 141 [cS xs,cS [45]] (lb (BD xs)):=by
 intro N w vs _ _ hv;obtain ⟨v,r,rfl,h1,v2,r2,rfl,h3,h4⟩:=hv;have h1:[v]=[.string (AM xs)]:=h1;have h3:[v2]=[.string (AM [45])]:=h3;injection h1 with h1;injection h3 with h3;obtain rfl:r2=[]:=h4;subst h1 h3;refine (Tryz.strings_HasPrefix (AM xs) (AM [45]) w).mono ?_;rintro e w' ⟨rfl,rfl⟩;rw[Cc,Cc,show [45].map UInt8.ofNat=[UInt8.ofNat 45] from rfl,Q3 xs hx];exact ⟨_,rfl,(rfl:[_]=[_]),Below.refl _ _⟩
theorem Ea {xs:List Nat}(hx:B8 xs):Sp Tryz.prog I 142 [cS xs,cS [45]] (tS (Bi xs)):=by
 intro N w vs _ _ hv;obtain ⟨v,r,rfl,h1,v2,r2,rfl,h3,h4⟩:=hv;have h1:[v]=[.string (AM xs)]:=h1;have h3:[v2]=[.string (AM [45])]:=h3;injection h1 with h1;injection h3 with h3;obtain rfl:r2=[]:=h4;subst h1 h3;refine (Tryz.strings_TrimPrefix (AM xs) (AM [45]) w).mono ?_;rintro e w' ⟨rfl,rfl⟩;refine ⟨_,rfl,?_,Below.refl _ _⟩;have e1:Lib.trimPrefix (AM xs).data.toList (AM [45]).data.toList=(Bi xs).map UInt8.ofNat:=by
  rw[Cc,Cc,show [45].map UInt8.ofNat=[UInt8.ofNat 45] from rfl];unfold Lib.trimPrefix Bi;rw[Q3 xs hx];split
  ·rw[List.map_drop];rfl
  ·rfl
 rw[e1];exact (rfl:[_]=[_])
theorem Lz {xs : List Nat} (hx : B8 xs) : Sp Tryz.prog I 143 [cS xs, cS [48]] (tS (xs.dropWhile (· == 48))) := by
 intro N w vs _ _ hv;obtain ⟨v,r,rfl,h1,v2,r2,rfl,h3,h4⟩:=hv;have h1:[v]=[.string (AM xs)]:=h1;have h3:[v2]=[.string (AM [48])]:=h3;injection h1 with h1;injection h3 with h3;obtain rfl:r2=[]:=h4;subst h1 h3;refine (Tryz.strings_TrimLeft_one (AM xs) (UInt8.ofNat 48) (by decide) w).mono ?_
 rintro e w' ⟨rfl,rfl⟩;refine ⟨_,rfl,?_,Below.refl _ _⟩;have e1 : ∀ xs:List Nat,B8 xs→Lib.trimLeftB (xs.map UInt8.ofNat) (UInt8.ofNat 48)=(xs.dropWhile (· == 48)).map UInt8.ofNat:=by
  intro xs;unfold Lib.trimLeftB;induction xs with
  | nil=>intro _;rfl
  | cons a l ih =>
   intro hx;have ha:=hx a (by simp)
   rw[List.map_cons,List.dropWhile_cons,List.dropWhile_cons];by_cases h:a=48
   ·subst h
    simp only[beq_self_eq_true,if_true];exact ih fun y hy=>hx y (by simp[hy])
   ·have h1:(UInt8.ofNat a == UInt8.ofNat 48)=false:=by
     rw[beq_eq_false_iff_ne];exact fun h'=>h ((Sn ha (by omega)).1 h')
    have h2:(a == 48)=false:=by rw[beq_eq_false_iff_ne];exact h
    rw[h1,h2];simp
 rw[Cc,e1 xs hx];exact (rfl:[_]=[_])
end
abbrev Aa (x:Nat):List It0:=[.lit (.int .u8 (x:Int))]
theorem Hz {D:List Nat}{i:Nat}(h:i < D.length):(D.map Aa)[i]? = some (Aa (D.getD i 0)):=by
 rw[List.getElem?_map,List.getD_eq_getElem?_getD,List.getElem?_eq_getElem h];rfl
theorem AU {D:List Nat} : ∀ r∈D.map Aa,BU r=1:=by intro r hr;obtain ⟨x,_,rfl⟩:=List.mem_map.1 hr;rfl
section
variable {P:Program}{I:WInv}
theorem Aat (s d e:TypeId)(xs:List Nat)(hs:P.underlying s=some (.slice e):=by kernel_rfl)(he:P.underlying e=some (.int .u8):=by kernel_rfl)(hd:P.underlying d=some .string:=by kernel_rfl):Be P (.conv s d) [tit (slI 1 (xs.map Aa))] (tS xs):=by
 intro N w g vs hv;obtain ⟨v,rfl,A,c,e1,h1,h2,h⟩:=He hv;injection e1 with e1;subst e1;have hr:Rd .u8 w w.heap.size A xs.length xs:=by
  refine ⟨rfl,fun h0 => ?_⟩
  obtain ⟨b,off,hA,hrow⟩:=h (by intro h3;rw[List.map_eq_nil_iff] at h3;rw[h3] at h0;simp at h0)
  have hb:b < w.heap.size:=by
   obtain ⟨cs,T,fr,vs,_,q,_⟩:=hrow 0 _ (Hz h0);exact (Array.getElem?_eq_some_iff.1 q).1
  refine ⟨b,off,hA,hb,fun j x hj => ?_⟩
  have hjl:=(List.getElem?_eq_some_iff.1 hj).1;obtain ⟨cs,T,fr,vs,_,q1,q2,q3⟩:=hrow j _ (Hz hjl);have hx:xs.getD j 0=x:=by rw[List.getD_eq_getElem?_getD,hj];rfl
  rw[hx] at q3;obtain ⟨l1,l2,rfl,q4,q5⟩:=q3;have q4:l1=[.int .u8 (x:Int)]:=q4;have q5:l2=[]:=q5;subst q4 q5;simp only[World.cell?,q1];simp only[List.cons_append,List.nil_append,List.length_cons,List.length_nil,Nat.zero_add,Nat.mul_one] at q2;have:=congrArg (fun l=>l[0]?) q2
  simp only[List.getElem?_take,List.getElem?_drop] at this
  simpa using this
 rw[List.length_map] at *;exact ⟨_,w,Hm hs he hd hr,Below.refl _ _,(rfl:[_]=[_])⟩
end
theorem AO (D:List Nat):((D.map Aa).flatten.map It.b).all It.okB=true:=by
 rw[List.all_eq_true];intro x hx;obtain ⟨y,hy,rfl⟩:=List.mem_map.1 hx;obtain ⟨r,hr,hy⟩:=List.mem_flatten.1 hy;obtain ⟨d,_,rfl⟩:=List.mem_map.1 hr;simp at hy;subst hy
 rfl
def byt (D:List Nat)(i:Nat):Nat:=D.getD i 0
theorem Ej {D:List Nat}{i:Nat}(h:i < D.length):(D.map Aa)[i]? = some (Aa (byt D i)):=Hz h
abbrev bI (xs:List Nat):Item:=slI 1 (xs.map Aa)
theorem MX {N:Nat→Prop}{w:World}{xs:List Nat}{l:List Value}(h:(bI xs).T N w l) : ∃ A c,l=[.slice A xs.length c]∧Rd .u8 w w.heap.size A xs.length xs∧xs.length≤c∧c≤9223372036854775807:=by
 obtain ⟨A,c,e,h1,h2,h3⟩:=h;rw[List.length_map] at e h1;refine ⟨A,c,e,⟨rfl,fun h0 => ?_⟩,h1,Nat.le_trans h2 (by simp[maxLen])⟩
 obtain ⟨b,off,hA,hrow⟩:=h3 (by intro h;rw[List.map_eq_nil_iff] at h;rw[h] at h0;simp at h0)
 have hb:b < w.heap.size:=by
  obtain ⟨cs,T,fr,vs,_,q,_⟩:=hrow 0 _ (Hz h0);exact (Array.getElem?_eq_some_iff.1 q).1
 refine ⟨b,off,hA,hb,fun j x hj => ?_⟩
 have hjl:=(List.getElem?_eq_some_iff.1 hj).1;obtain ⟨cs,T,fr,vs,_,q1,q2,q3⟩:=hrow j _ (Hz hjl);have hx:xs.getD j 0=x:=by rw[List.getD_eq_getElem?_getD,hj];rfl
 rw[hx] at q3;obtain ⟨l1,l2,rfl,q4,q5⟩:=q3;have q4:l1=[.int .u8 (x:Int)]:=q4;have q5:l2=[]:=q5;subst q4 q5;simp only[World.cell?,q1];simp only[List.cons_append,List.nil_append,List.length_cons,List.length_nil,Nat.zero_add,Nat.mul_one] at q2;have:=congrArg (fun l=>l[0]?) q2
 simp only[List.getElem?_take,List.getElem?_drop] at this
 simpa using this
theorem Sl {N:Nat→Prop}{e:TypeId}{w0 w:World}{v:Value}{xs:List Nat}(h:Own .u8 e w0 w v xs):(bI xs).T (Nx N w0 w) w [v]:=by
 rcases h.1.2 with ⟨rfl,hn⟩ | ⟨g,cap,cur,rfl,hg,hh,hnc,hcm,hcs,ht⟩
 ·obtain rfl:xs=[]:=List.eq_nil_of_length_eq_zero hn
  exact ⟨none,0,rfl,Nat.le_refl _,by simp[maxLen],fun hne=>absurd rfl hne⟩
 ·refine ⟨some ⟨g,0,none⟩,cap,by rw[List.length_map],by rw[List.length_map];exact hnc,hcm,fun hne=>⟨g,0,rfl,fun i r hi => ?_⟩⟩
  have hil:i < xs.length:=by have:=(List.getElem?_eq_some_iff.1 hi).1;simpa using this
  rw[Hz hil] at hi;injection hi with hi;subst hi;refine ⟨_,_,_,[.int .u8 ((xs.getD i 0:Nat):Int)],.inr ⟨hg,(Array.getElem?_eq_some_iff.1 hh).1⟩,hh,?_,[_],[],rfl,rfl,rfl⟩;have h2:=congrArg (fun l=>l[i]?) ht
  simp only[List.getElem?_take,DT] at h2;rw[if_pos (by omega),List.getElem?_eq_getElem hil] at h2
  have h3:=(List.getElem?_eq_some_iff.1 h2).1;rw[List.getD_eq_getElem?_getD,List.getElem?_eq_getElem hil];apply List.ext_getElem?;intro j;cases j with
  | zero=>simp only[List.getElem?_take,List.getElem?_drop];simpa using h2
  | succ j=>simp;omega
abbrev bbx (xs:List Nat):Ent:=⟨5,some (1,xs.length),Ad (xs.map Aa)⟩
theorem H7:XLe (.z) (.b (.it (bI []))):=by
 intro N w g l h;have h:l=[.slice none 0 0]:=h;exact ⟨none,0,h,Nat.le_refl _,by simp[maxLen],fun hr=>absurd rfl hr⟩
section
variable {P:Program}{I:WInv}
theorem Ws (t e:TypeId)(sz:Nat)(rows:List (List It0))(m:Nat)(z:Int)(hz:z=(m:Int))(hm:m≤rows.length)(ht:P.underlying t=some (.slice e))(hs:Cd P e=some sz):Be P (.slc t true false false) [tit (slI sz rows),li z] (tit (slI sz (rows.drop m))):=by
 intro N w g vs hv;obtain ⟨v,x,rfl,⟨A,c,e1,hc1,hc2,h⟩,h2⟩:=Ev hv;injection e1 with e1;subst e1 hz;have h2:[x]=[.int .i64 (m:Int)]:=h2;injection h2 with h2;subst h2;refine ⟨.slice (if c=m then A else A.map (·.add (m*sz))) (rows.length - m) (c - m),w,?_,Below.refl _ _,⟨_,c - m,by rw[List.length_drop],by rw[List.length_drop];omega,by omega,fun hr => ?_⟩⟩
 ·simp[OpK.run,Instr.sliceAt,Instr.slice,Instr.sliceBounds,Instr.sliceBound,asIntOf,AL ht,C0 hs,hm]
 ·have hlt:m < rows.length:=by
   by_cases h0:m < rows.length
   ·exact h0
   ·exact absurd (List.drop_eq_nil_of_le (by omega)) hr
  obtain ⟨b,off,hA,hrow⟩:=h (fun h0=>by rw[h0] at hlt;simp at hlt)
  subst hA;rw[if_neg (by omega)]
  refine ⟨b,off+m*sz,by simp[Addr.add],fun i r hi => ?_⟩
  rw[List.getElem?_drop] at hi;have:=(hrow _ _ hi).step (WStep.refl _ w) (N':=Nx N w w) (fun _ h => .inl h)
  rw[show off+m*sz+i*sz=off+(m+i)*sz by rw[Nat.add_mul];omega]
  exact this
theorem Tp (t e:TypeId)(sz:Nat)(rows:List (List It0))(m n:Nat)(z y:Int)(hz:z=(m:Int))(hy:y=(n:Int))(hm:m≤n)(hn:n≤rows.length)(ht:P.underlying t=some (.slice e))(hs:Cd P e=some sz):Be P (.slc t true true false) [tit (slI sz rows),li z,li y] (tit (slI sz ((rows.take n).drop m))):=by
 intro N w g vs hv;obtain ⟨v,vs1,rfl,⟨A,c,e1,hc1,hc2,h⟩,hv⟩:=hv;obtain ⟨x,y1,rfl,h2,h3⟩:=Ev hv;injection e1 with e1;subst e1 hz hy;have h2:[x]=[.int .i64 (m:Int)]:=h2;have h3:[y1]=[.int .i64 (n:Int)]:=h3;injection h2 with h2;injection h3 with h3;subst h2 h3;have hnc:n≤c:=by omega
 refine ⟨.slice (if c=m then A else A.map (·.add (m*sz))) (n - m) (c - m),w,?_,Below.refl _ _,⟨_,c - m,by rw[List.length_drop,List.length_take,Nat.min_eq_left hn],by rw[List.length_drop,List.length_take];omega,by omega,fun hr => ?_⟩⟩
 ·simp[OpK.run,Instr.sliceAt,Instr.slice,Instr.sliceBounds,Instr.sliceBound,asIntOf,AL ht,C0 hs,hm,hnc]
 ·have hlt:m < n:=by
   by_cases h0:m < n
   ·exact h0
   ·exact absurd (List.drop_eq_nil_of_le (by rw[List.length_take];omega)) hr
  obtain ⟨b,off,hA,hrow⟩:=h (fun h0=>by rw[h0] at hn;simp at hn;omega)
  subst hA;rw[if_neg (by omega)]
  refine ⟨b,off+m*sz,by simp[Addr.add],fun i r hi => ?_⟩
  rw[List.getElem?_drop,List.getElem?_take] at hi;split at hi
  ·have:=(hrow _ _ hi).step (WStep.refl _ w) (N':=Nx N w w) (fun _ h => .inl h)
   rw[show off+m*sz+i*sz=off+(m+i)*sz by rw[Nat.add_mul];omega]
   exact this
  ·cases hi
theorem Wr (t e:TypeId)(sz:Nat)(rows:List (List It0))(m:Nat)(z:Int)(hz:z=(m:Int))(hm:m≤rows.length)(ht:P.underlying t=some (.slice e))(hs:Cd P e=some sz):Be P (.slc t false true false) [tit (slI sz rows),li z] (tit (slI sz (rows.take m))):=by
 intro N w g vs hv;obtain ⟨v,x,rfl,⟨A,c,e1,hc1,hc2,h⟩,h2⟩:=Ev hv;injection e1 with e1;subst e1 hz;have h2:[x]=[.int .i64 (m:Int)]:=h2;injection h2 with h2;subst h2;have hmc:m≤c:=by omega
 refine ⟨.slice A m c,w,?_,Below.refl _ _,⟨A,c,by rw[List.length_take,Nat.min_eq_left hm],by rw[List.length_take];omega,hc2,fun hr => ?_⟩⟩
 ·simp[OpK.run,Instr.sliceAt,Instr.slice,Instr.sliceBounds,Instr.sliceBound,asIntOf,AL ht,C0 hs,hmc]
  intro _;cases A with
  | none=>rfl
  | some a=>simp[Addr.add]
 ·obtain ⟨b,off,hA,hrow⟩:=h (fun h0=>hr (by rw[h0];simp))
  refine ⟨b,off,hA,fun i r hi => ?_⟩
  rw[List.getElem?_take] at hi;split at hi
  ·exact (hrow i r hi).step (WStep.refl _ _) (fun _ h => .inl h)
  ·cases hi
theorem AE (xs:List Nat)(m:Nat)(z:Int)(hz:z=(m:Int))(hm:m≤xs.length):Be Tryz.prog (.slc 31 true false false) [tit (bI xs),li z] (tit (bI (xs.drop m))):=by
 have:=Ws (P:=Tryz.prog) 31 5 1 (xs.map Aa) m z hz (by rw[List.length_map];exact hm) (by kernel_rfl) (by kernel_rfl)
 rwa [←List.map_drop] at this
theorem PF (xs:List Nat)(m:Nat)(z:Int)(hz:z=(m:Int))(hm:m≤xs.length):Be Tryz.prog (.slc 31 false true false) [tit (bI xs),li z] (tit (bI (xs.take m))):=by
 have:=Wr (P:=Tryz.prog) 31 5 1 (xs.map Aa) m z hz (by rw[List.length_map];exact hm) (by kernel_rfl) (by kernel_rfl)
 rwa [←List.map_take] at this
theorem Acy (xs:List Nat)(m n:Nat)(z y:Int)(hz:z=(m:Int))(hy:y=(n:Int))(hm:m≤n)(hn:n≤xs.length):Be Tryz.prog (.slc 31 true true false) [tit (bI xs),li z,li y] (tit (bI ((xs.take n).drop m))):=by
 have:=Tp (P:=Tryz.prog) 31 5 1 (xs.map Aa) m n z y hz hy hm (by rw[List.length_map];exact hn) (by kernel_rfl) (by kernel_rfl)
 rwa [←List.map_take,←List.map_drop] at this
theorem MS (xs:List Nat)(ty:TypeId)(n:Int)(hn:n=(xs.length:Int)):Be Tryz.prog (.len #[31] ty) [tit (bI xs)] (li n):=AK 31 5 ty 1 (xs.map Aa) n (by kernel_rfl) (by rw[List.length_map];omega)
theorem Gi (xs:List Nat):Be Tryz.prog (.conv 31 9) [tit (bI xs)] (tS xs):=Aat 31 9 5 xs
end
section
variable {I:WInv}
theorem J6 {N:Nat→Prop}{w w':World}{xs:List Nat}{err:Int}{t:TypeId}{e:Ending}(h:El .u8 t w xs err e w') : ∃ v,e = .returned v∧(TV.tu [.t (bI xs),ci err]).sem (Nx N w w') w' G0 v∧Below w.heap.size w w':=by
 obtain ⟨v,e1,h1⟩:=h;exact ⟨_,e1,⟨_,rfl,_,_,rfl,Sl h1,_,_,rfl,rfl,rfl⟩,h1.2⟩
theorem Acg (n:Int):Sp Tryz.prog I 88 [ci n] (.tu [.t (bI (SG n).1),ci (SG n).2]):=by
 intro N w vs _ _ hv;rw[Kg hv];exact (MH n w).mono fun e w' he=>J6 he
theorem Aci (n:Int):Sp Tryz.prog I 93 [ci n] (.tu [.t (bI (V8 n).1),ci (V8 n).2]):=by
 intro N w vs _ _ hv;rw[Kg hv];exact (Nq n w).mono fun e w' he=>J6 he
theorem Ach {xs:List Nat}(hx:B8 xs)(hl:xs.length≤1000000):Sp Tryz.prog I 92 [cS xs] (.tu [.t (bI (V7 (AM xs)).1),ci (V7 (AM xs)).2]):=by
 intro N w vs _ _ hv;rw[Kg hv];exact (MI (AM xs) w (by rw[BB];omega)).mono fun e w' he=>J6 he
theorem Aco {xs:List Nat}(hx:B8 xs):Sp Tryz.prog I 66 [.t (bI xs)] (.tu [ci ((AZ xs).1:Nat),ci ((AZ xs).2.1:Nat),ci ((AZ xs).2.2:Nat)]):=by
 intro N w vs _ hN hv;obtain ⟨v,r,rfl,h,h'⟩:=hv;have h':r=[]:=h';subst h';obtain ⟨A,c,e1,h1,h2,h3⟩:=MX h;injection e1 with e1;subst e1;refine (D2 w h1 hx (by omega)).mono fun e w' ⟨he,hw⟩ => ?_
 subst he hw;exact ⟨_,rfl,⟨_,rfl,_,_,rfl,rfl,_,_,rfl,rfl,_,_,rfl,rfl,rfl⟩,Below.refl _ _⟩
theorem Acq {xs:List Nat}(hx:B8 xs):Sp Tryz.prog I 106 [.t (bI xs)] (.tu [ci (Fl xs).1,ci ((Fl xs).2.1:Nat),ci ((Fl xs).2.2:Nat)]):=by
 intro N w vs _ hN hv;obtain ⟨v,r,rfl,h,h'⟩:=hv;have h':r=[]:=h';subst h';obtain ⟨A,c,e1,h1,h2,h3⟩:=MX h;injection e1 with e1;subst e1;refine (Nr w h1 hx (by omega)).mono fun e w' ⟨he,hw⟩ => ?_
 subst he hw;exact ⟨_,rfl,⟨_,rfl,_,_,rfl,rfl,_,_,rfl,rfl,_,_,rfl,rfl,rfl⟩,Below.refl _ _⟩
theorem Acp {xs:List Nat}(hx:B8 xs):Sp Tryz.prog I 105 [.t (bI xs)] (.tu [cS (CW xs).1,ci ((CW xs).2.1:Nat),ci ((CW xs).2.2:Nat)]):=by
 intro N w vs _ hN hv;obtain ⟨v,r,rfl,h,h'⟩:=hv;have h':r=[]:=h';subst h';obtain ⟨A,c,e1,h1,h2,h3⟩:=MX h;injection e1 with e1;subst e1;refine (ML w h1 hx h2 h3).mono fun e w' ⟨he,hw⟩ => ?_
 subst he hw;exact ⟨_,rfl,⟨_,rfl,_,_,rfl,rfl,_,_,rfl,rfl,_,_,rfl,rfl,rfl⟩,Below.refl _ _⟩
end
theorem L6 (c:Nat)(l:List Nat):nd (c::l)=(c - 48)*10 ^ l.length+nd l:=by
 have h:=K7 [c] l;rw[show [c]++l=c::l from rfl,show nd [c]=0*10+(c - 48) from rfl,Nat.zero_mul,Nat.zero_add] at h;exact h
theorem Xz {l:List Nat}(h:Hi l)(h1:l≠[48]):0 < nd l:=by
 obtain ⟨h2,h3,h4⟩:=h;cases l with
 | nil=>exact absurd rfl h2
 | cons c r =>
  have hc:=h3 c (by simp)
  by_cases h0:c=48
  ·subst h0
   exfalso;cases r with
   | nil=>exact h1 rfl
   | cons a r=>exact h4 ⟨by simp,by simp⟩
  ·rw[L6]
   have:0 < (c - 48)*10 ^ r.length:=Nat.mul_pos (by omega) (Nat.pow_pos (by omega))
   omega
theorem AbN (k:Nat):nd (List.replicate k 48)=0:=by
 induction k with
 | zero=>rfl
 | succ k ih=>rw[List.replicate_succ,L6,ih];simp
theorem AbM (k:Nat):nd (49::List.replicate k 48)=10 ^ k:=by
 rw[L6,AbN,List.length_replicate];simp
theorem QC (l:List Nat):nd (l.dropWhile (· == 48))=nd l:=by
 induction l with
 | nil=>rfl
 | cons c r ih =>
  rw[List.dropWhile_cons];by_cases h:c=48
  ·subst h
   simp only[beq_self_eq_true,if_true];rw[ih,L6];simp
  ·have:(c == 48)=false:=by rw[beq_eq_false_iff_ne];exact h
   rw[this];rfl
theorem okD.rep (k:Nat):okD (List.replicate k 48):=fun c hc=>by have:=List.eq_of_mem_replicate hc;omega
theorem okD.cons {c:Nat}{l:List Nat}(h:48≤c∧c≤57)(hl:okD l):okD (c::l):=fun x hx=>by
 rcases List.mem_cons.1 hx with h1 | h1
 ·rw[h1];exact h
 ·exact hl x h1
theorem okD.app {a b:List Nat}(h:okD a)(hl:okD b):okD (a++b):=fun x hx=>(List.mem_append.1 hx).elim (h x) (hl x)
theorem okD.b8 {l:List Nat}(h:okD l):B8 l:=fun x hx=>by have:=h x hx;omega
theorem Rt (k:Nat):Hi (49::List.replicate k 48):=⟨by simp,okD.cons (by omega) (okD.rep k),by simp⟩
theorem SO {l:List Nat}(h:okD l)(h1:l.dropWhile (· == 48)≠[]):Hi (l.dropWhile (· == 48)):=by
 refine ⟨h1,fun c hc=>h c ((List.dropWhile_sublist _).subset hc),fun g => ?_⟩
 have hd:=List.head_dropWhile_not (· == 48) h1;obtain ⟨g1,_⟩:=g;generalize l.dropWhile (· == 48)=m at *;cases m with
 | nil=>exact h1 rfl
 | cons a m =>
  simp at g1 hd;omega
theorem Ru {l:List Nat}(h:Hi l):BD l=false∧Bi l=l:=by
 have h1:BD l=false:=by
  unfold BD;rw[beq_eq_false_iff_ne];have:=h.2.1.getD (k:=0) (List.length_pos_iff.2 h.1);omega
 exact ⟨h1,by unfold Bi;rw[h1];rfl⟩
theorem GT {l:List Nat}(h:Hi l)(hl:l.length≤400):PA l (nd l:Nat) 0:=by
 obtain ⟨h1,h2⟩:=Ru h;refine .inr (.inl ⟨hl,?_,rfl,?_⟩)
 ·rw[h1,h2];exact ⟨h,fun g=>by cases g.1⟩
 ·rw[h1,h2];rfl
theorem JB {l:List Nat}(h:CP (BD l) (Bi l))(hl:l.length≤400):PA l (sgn (BD l) (nd (Bi l))) 0 := .inr (.inl ⟨hl,h,rfl,rfl⟩)
theorem OV {l:List Nat}(h : ¬ CP (BD l) (Bi l))(hl:l.length≤400):PA l 0 1 := .inr (.inr ⟨hl,h,rfl,rfl⟩)
theorem QZ {l:List Nat}(h:CP (BD l) (Bi l))(hd : ¬ Hi l):sgn (BD l) (nd (Bi l)) < 0:=by
 cases hn:BD l with
 | false =>
  exfalso;rw[hn] at h;have:Bi l=l:=by unfold Bi;rw[hn];rfl
  rw[this] at h;exact hd h.1
 | true =>
  rw[hn] at h;have:=Xz h.1 (fun e=>h.2 ⟨rfl,e⟩)
  rw[AaO];omega
theorem Si:(10:Nat) ^ 800 < 4294967296 ^ 84:=by decide +kernel
theorem Dz {l:List Nat}(h:okD l)(hl:l.length≤800):Lim 84 (nd l:Nat):=by
 unfold Lim;have h1:=QB _ l rfl h;rw[Int.natAbs_natCast];exact Nat.lt_of_lt_of_le h1 (Nat.le_trans (Nat.pow_le_pow_right (by omega) hl) (Nat.le_of_lt Si))
theorem Tj {k:Nat}(hk:k≤800):Lim 84 ((10 ^ k:Nat):Int):=by
 unfold Lim;rw[Int.natAbs_natCast];exact Nat.lt_of_le_of_lt (Nat.pow_le_pow_right (by omega) hk) Si
theorem Abn (k:Nat):((10 ^ k:Nat):Int)≠0:=by
 have:0 < 10 ^ k:=Nat.pow_pos (by omega)
 omega
theorem Lim.sgn {k:Nat}{n:Nat}(h:Lim k (n:Int))(s:Bool):Lim k (sgn s n):=by
 unfold Lim at *;rw[Bw]
 rwa [Int.natAbs_natCast] at h
theorem JP (z:Int):B8 (Ct z):=by
 intro c hc;unfold Ct Dl at hc;rcases List.mem_append.1 hc with h | h
 ·split at h <;> simp at h;omega
 ·exact KK _ c h
theorem Rh (n:Nat):Ct (n:Int)=dec n:=by
 unfold Ct Dl;rw[Int.natAbs_natCast,if_neg (fun h=>by have:=of_decide_eq_true h.1;omega)]
 rfl
theorem Jh (z:Int) : ∀ c∈Ct z,c=45∨(48≤c∧c≤57):=by
 intro c hc;unfold Ct Dl at hc;rcases List.mem_append.1 hc with h | h
 ·split at h <;> simp at h;exact .inl h
 ·exact .inr (FA _ c h)
theorem XP (d:Nat):Ct (d:Int)=[49]↔d=1:=by
 rw[Rh];constructor
 ·intro h
  have:=H9 d;rw[h] at this;exact this.symm
 ·intro h;rw[h,C4 (by omega)]
theorem JO {z:Int}{k:Nat}(h:Lim k z):(Ct z).length≤18*k+2:=by
 unfold Ct;by_cases h0:z.natAbs=0
 ·rw[h0,F9];simp
 ·have:=Oj z.natAbs h0
  have h2:=B6 h;unfold Dl;rw[List.length_append];split <;> simp <;> omega
theorem Xs (z:Int)(h:(Ct z).length≤400):PA (Ct z) z 0:=by
 have:=AaH (decide (z < 0)) z.natAbs h;have e:sgn (decide (z < 0)) z.natAbs=z:=by
  unfold sgn;by_cases h0:z < 0
  ·rw[decide_eq_true h0];simp;omega
  ·rw[decide_eq_false h0];simp;omega
 rwa [e] at this
theorem MM (n:Nat):Hi (dec n):=(Rw false n (.inr rfl)).1
def BK (q:Rat):List Nat:=if q.den=1 then Ct q.num else Ct q.num++([47]++Ct (q.den:Int))
theorem JN (q:Rat):B8 (BK q):=by
 unfold BK;split
 ·exact JP _
 ·exact (JP _).app (B8.app (fun x hx=>by simp at hx;omega) (JP _))
theorem MB (q:Rat)(h:q.den≠1):CU 47 (BK q)=some (Ct q.num).length:=by
 unfold BK;rw[if_neg h];exact QX fun x hx=>by have:=Jh _ x hx;omega
theorem Oe (q:Rat)(h:q.den=1):CU 47 (BK q)=none∧CU 46 (BK q)=none:=by
 unfold BK;rw[if_pos h];exact ⟨Pt fun x hx=>by have:=Jh _ x hx;omega,Pt fun x hx=>by have:=Jh _ x hx;omega⟩
theorem Sp.inv {P:Program}{I I':WInv}{f:FuncId}{args:List CT}{res:TV}(h:Sp P I f args res)(hi : ∀ N w,I'.T N w→I.T N w):Sp P I' f args res:=fun N w vs hI hl hv=>h N w vs (hi N w hI) hl hv
def Am:WInv:=⟨fun N w=>D4.T N w∧(∃ m:Int,w.cell? ⟨0,0,none⟩=some (.int .i64 m))∧N 0,fun {N N' w w'} hw hN ⟨h1,⟨m,h2⟩,h3⟩=>⟨D4.step hw hN h1,⟨m,by
 have hlt:0 < w.heap.size:=by
  rcases Nat.lt_or_ge 0 w.heap.size with h' | h'
  ·exact h'
  ·unfold World.cell? at h2
   rw[Array.getElem?_eq_none h'] at h2;simp at h2
 rcases hw.keep _ hlt with e | e
 ·unfold World.cell? at h2 ⊢
  rw[e];exact h2
 ·exact absurd h3 e.1⟩,hN _ h3⟩⟩
theorem OF : ∀ N w,Am.T N w→D4.T N w:=fun N w h=>h.1
theorem Abe {c:Nat}(hc:c < 256){xs:List Nat}(hx:B8 xs):Lib.cut (AM xs).data.toList (AM [c]).data.toList=match CU c xs with
  | some i=>((xs.take i).map UInt8.ofNat,(xs.drop (i+1)).map UInt8.ofNat,true)
  | none=>(xs.map UInt8.ofNat,[],false):=by
 rw[Cc,Cc,show [c].map UInt8.ofNat=[UInt8.ofNat c] from rfl];unfold Lib.cut;rw[M5 hc hx];cases CU c xs with
 | none=>simp
 | some i =>
  have:(0:Int)≤(i:Int):=by omega
  simp[this,List.map_take,List.map_drop]
theorem MO {c i:Nat}(hc:c < 256){xs:List Nat}(hx:B8 xs)(hl:xs.length≤1000000)(hi:CU c xs=some i):Sp Tryz.prog Am 100 [cS xs,cS [c]] (.tu [cS (xs.take i),cS (xs.drop (i+1)),cb true]):=by
 intro N w vs hI _ hv;obtain ⟨v,r,rfl,h1,v2,r2,rfl,h3,h4⟩:=hv;have h1:[v]=[.string (AM xs)]:=h1;have h3:[v2]=[.string (AM [c])]:=h3;injection h1 with h1;injection h3 with h3;obtain rfl:r2=[]:=h4;subst h1 h3;obtain ⟨m,hm⟩:=hI.2.1;refine (Tryz.strings_Cut (AM xs) (AM [c]) m w (by rw[BB];omega) hm).mono ?_
 rintro e w' ⟨rfl,n,rfl⟩;rw[Abe hc hx,hi];exact ⟨_,rfl,⟨_,rfl,_,_,rfl,(rfl:[_]=[_]),_,_,rfl,(rfl:[_]=[_]),_,_,rfl,(rfl:[_]=[_]),rfl⟩,Li w n⟩
theorem GE {c:Nat}(hc:c < 256){xs:List Nat}(hx:B8 xs)(hl:xs.length≤1000000)(hi:CU c xs=none):Sp Tryz.prog Am 100 [cS xs,cS [c]] (.tu [cS xs,cS [],cb false]):=by
 intro N w vs hI _ hv;obtain ⟨v,r,rfl,h1,v2,r2,rfl,h3,h4⟩:=hv;have h1:[v]=[.string (AM xs)]:=h1;have h3:[v2]=[.string (AM [c])]:=h3;injection h1 with h1;injection h3 with h3;obtain rfl:r2=[]:=h4;subst h1 h3;obtain ⟨m,hm⟩:=hI.2.1;refine (Tryz.strings_Cut (AM xs) (AM [c]) m w (by rw[BB];omega) hm).mono ?_
 rintro e w' ⟨rfl,n,rfl⟩;rw[Abe hc hx,hi];exact ⟨_,rfl,⟨_,rfl,_,_,rfl,(rfl:[_]=[_]),_,_,rfl,(rfl:[_]=[_]),_,_,rfl,(rfl:[_]=[_]),rfl⟩,Li w n⟩
section
variable {I:WInv}{n d:Int}{k0:Nat}{q1 q2:IntP}
theorem b49:B8 [49]:=by intro x hx;simp at hx;omega
theorem AbE (h1:Fk q1 q2 n d k0)(hk0:k0≤1000):Sp Tryz.prog D4 37 [fr q1 q2] (tS (BK (Rat.divInt n d))):=by
 have pa:=Q6 (I:=D4) h1.a h1.b h1.big.1 h1.big.2;have hd:=OT d;have re:=En (I:=D4) (H6 (pn n d)) (H6 (pd d)) ((Xp h1.ln d).mono (by omega)) ((AbG h1.ld h1.k0).mono (by omega)) (by omega)
 rw[AaT] at re;have lq:=h1.lq;generalize Rat.divInt n d=q at *;have fn:=Aba (Bm lq.n (by omega))
 have fd:=Aba (Bm lq.d (by omega))
 have ln:=JO lq.n;have ld:=JO lq.d;have bn:=JP q.num;have bd:=JP (q.den:Int);have h1':=XP q.den;unfold BK;by_cases h:q.den=1
 ·rw[if_pos h]
  exact sr 28 [po pa,po re,po fn,po fd,pk (Kq 9 (Ct (q.den:Int)) [49] false (decide_eq_true (h1'.2 h)) bd b49)]
 ·rw[if_neg h]
  exact sr 28 [po pa,po re,po fn,po fd,pk (Kq 9 (Ct (q.den:Int)) [49] true (decide_eq_false (fun e=>h (h1'.1 e))) bd b49),pk (Gs 9 [47] (Ct (q.den:Int)) (by simp;omega)),pk (Gs 9 (Ct q.num) ([47]++Ct (q.den:Int)) (by simp;omega))]
end
def DP (n:Int):Bool:=decide (0≤n)&&decide (n≤1099511627776)
def Bp (x:Ch):Bool:=DP x.node&&DP x.fst&&DP x.nxt&&BS x.cost&&(if x.kind=1 then decide (x.fst=0)&&decide (x.nxt=0)&&decide (x.cost=0) else if x.kind=2 then decide (x.q.num.sign=0)&&decide (x.cost=0) else if x.kind=3 then decide (x.q.num.sign=0)&&decide (x.fst=0)&&decide (x.nxt=0)&&decide (x.node=0) else false)
def NW (x:Ch):List Nat:=if x.kind=1 then Ac (BK x.q).length++BK x.q else if x.kind=2 then Ac x.fst.toNat++Ac x.nxt.toNat else Ac (zig x.cost)
def Bb (x:Ch):List Nat×Int:=if Bp x=false then ([],5) else if x.kind=1∧400 < (BK x.q).length then ([],10) else (Ac x.kind.toNat++Ac x.node.toNat++NW x,0)
abbrev chK (c:Bool)(k:Nat)(x:Ch):CT := .ag [.i x.kind,.i x.node,.b (.it (fF c k x.q)),.i x.fst,.i x.nxt,.i x.cost]
abbrev AcA:Ent:=⟨67,none,[.z,.i 0]⟩
abbrev wbx (k:Nat):Ent:=⟨67,none,[.sl k,.i 0]⟩
theorem Aae {n:Nat}(h:n≤4611686018427387904):SG (n:Int)=(Ac n,0):=by unfold SG;rw[if_pos ⟨by omega,by omega⟩];rfl
theorem OZ {n:Int}(h:DP n=true):0≤n∧n≤1099511627776:=by unfold DP at h;simpa using h
theorem Df {n:Int}(h:BS n=true) : -288230376151711744≤n∧n≤288230376151711744:=by unfold BS at h;simpa using h
section
variable {I:WInv}{c:Bool}{k:Nat}
theorem Ua (n:Nat)(h:n≤4611686018427387904):Sp Tryz.prog I 88 [ci (n:Int)] (.tu [.t (bI (Ac n)),ci 0]):=by
 have:=Acg (I:=I) (n:Int)
 rwa [Aae h] at this
theorem Aaf (z:Int)(h:BS z=true):Sp Tryz.prog I 93 [ci z] (.tu [.t (bI (Ac (zig z))),ci 0]):=by
 have:=Aci (I:=I) z;have hc:=Df h;unfold V8 at this
 rwa [if_pos ⟨by omega,by omega⟩] at this
theorem Aad {xs:List Nat}(hx:B8 xs)(h:xs.length≤400):Sp Tryz.prog I 92 [cS xs] (.tu [.t (bI (Ac xs.length++xs)),ci 0]):=by
 have:=Ach (I:=I) hx (by omega)
 unfold V7 at this
 rwa [BB,if_pos (by omega),hx.bo] at this
theorem AaC (xs:List Nat)(hl:xs.length≤1000000):SpM Tryz.prog I 87 [(0,some AcA)] [.one (.ptr 0 0),.t (bI xs),ci 0] [(2,some (bbx xs)),(0,some (wbx 2))] (.tu []) :=
 sm 24 [pa,⟨.src 1 (bI xs) ((xs).map Aa).length ((xs).map Aa).flatten,BG AU (AO _)⟩,⟨.ap 0 (((xs).map Aa).length) 1,⟨by simp;omega,by simp[maxLen];omega⟩⟩,pm ((show Leads I _ ⟨[],[(19,some ⟨5,some (1,((xs).map Aa).length),((xs).map Aa).flatten.map It.b⟩),(0,some ⟨67,none,[.sl 19,.i 0]⟩)],23⟩ ⟨[],[(2,some ⟨5,some (1,(xs).length),Ad ((xs).map Aa)⟩),(0,some ⟨67,none,[.sl 2,.i 0]⟩)],23⟩ from AN [(2,19)] trivial ⟨rfl,rfl,(congrArg (fun m=>some (1,m)) (show ((xs).map Aa).length=(xs).length by simp)),ILe.eq (show ((xs).map Aa).flatten.map It.b=Ad ((xs).map Aa) from by simp[Ad]),rfl,rfl,rfl,ILe.refl,trivial⟩))]
theorem PL (ys xs:List Nat)(hl:xs.length≤1000000)(hy:ys.length≤1000000):SpM Tryz.prog I 87 [(0,some (wbx 1)),(1,some (bbx ys))] [.one (.ptr 0 0),.t (bI xs),ci 0] [(2,some (bbx (ys++xs))),(0,some (wbx 2))] (.tu []) :=
 sm 24 [pa,⟨.src 1 (bI xs) ((xs).map Aa).length ((xs).map Aa).flatten,BG AU (AO _)⟩,⟨.ap ((ys).length) (((xs).map Aa).length) 1,⟨by simp;omega,by simp[maxLen];omega⟩⟩,pm ((show Leads I _ ⟨[],[(19,some ⟨5,some (1,(ys).length+((xs).map Aa).length),(Ad ((ys).map Aa))++(((xs).map Aa).flatten.map It.b)⟩),(0,some ⟨67,none,[.sl 19,.i 0]⟩)],23⟩ ⟨[],[(2,some ⟨5,some (1,(ys++xs).length),Ad ((ys++xs).map Aa)⟩),(0,some ⟨67,none,[.sl 2,.i 0]⟩)],23⟩ from AN [(2,19)] trivial ⟨rfl,rfl,(congrArg (fun m=>some (1,m)) (show (ys).length+((xs).map Aa).length=(ys++xs).length by simp)),ILe.eq (show (Ad ((ys).map Aa))++(((xs).map Aa).flatten.map It.b)=Ad ((ys++xs).map Aa) from by simp[Ad]),rfl,rfl,rfl,ILe.refl,trivial⟩ (hnp:=⟨fun _=>BM (Ar _) (Ar _),fun h=>absurd h Bool.false_ne_true,trivial⟩)))]
theorem GM (n:Nat)(h:n≤4611686018427387904):SpM Tryz.prog I 36 [(0,some AcA)] [.one (.ptr 0 0),ci (n:Int)] [(2,some (bbx (Ac n))),(0,some (wbx 2))] (.tu []):=by
 have h9:=AJ h;exact sm 10 [po (Ua n h),pom [0] (AaC (Ac n) (by omega)),pm ((show Leads I _ ⟨[],[(8,some ⟨5,some (1,(Ac n).length),Ad ((Ac n).map Aa)⟩),(0,some ⟨67,none,[.sl 8,.i 0]⟩)],9⟩ ⟨[],[(2,some ⟨5,some (1,(Ac n).length),Ad ((Ac n).map Aa)⟩),(0,some ⟨67,none,[.sl 2,.i 0]⟩)],9⟩ from AN [(2,8)] trivial ⟨rfl,rfl,(congrArg (fun m=>some (1,m)) (show (Ac n).length=(Ac n).length by simp)),ILe.eq (show Ad ((Ac n).map Aa)=Ad ((Ac n).map Aa) from by simp[Ad]),rfl,rfl,rfl,ILe.refl,trivial⟩))]
theorem Em (ys:List Nat)(hy:ys.length≤1000000)(n:Nat)(h:n≤4611686018427387904):SpM Tryz.prog I 36 [(0,some (wbx 1)),(1,some (bbx ys))] [.one (.ptr 0 0),ci (n:Int)] [(2,some (bbx (ys++Ac n))),(0,some (wbx 2))] (.tu []):=by
 have h9:=AJ h;exact sm 10 [po (Ua n h),pom [0,1] (PL (ys) (Ac n) (by omega) (by omega)),pm ((show Leads I _ ⟨[],[(8,some ⟨5,some (1,(ys++(Ac n)).length),Ad ((ys++(Ac n)).map Aa)⟩),(0,some ⟨67,none,[.sl 8,.i 0]⟩)],9⟩ ⟨[],[(2,some ⟨5,some (1,(ys++(Ac n)).length),Ad ((ys++(Ac n)).map Aa)⟩),(0,some ⟨67,none,[.sl 2,.i 0]⟩)],9⟩ from AN [(2,8)] trivial ⟨rfl,rfl,(congrArg (fun m=>some (1,m)) (show (ys++(Ac n)).length=(ys++(Ac n)).length by simp)),ILe.eq (show Ad ((ys++(Ac n)).map Aa)=Ad ((ys++(Ac n)).map Aa) from by simp[Ad]),rfl,rfl,rfl,ILe.refl,trivial⟩))]
theorem Wa (ys:List Nat)(hy:ys.length≤1000000)(z:Int)(h:BS z=true):SpM Tryz.prog I 39 [(0,some (wbx 1)),(1,some (bbx ys))] [.one (.ptr 0 0),ci z] [(2,some (bbx (ys++Ac (zig z)))),(0,some (wbx 2))] (.tu []):=by
 have h9:=AJ (Km z (by have:=Df h;omega) (by have:=Df h;omega))
 exact sm 10 [po (Aaf z h),pom [0,1] (PL (ys) (Ac (zig z)) (by omega) (by omega)),pm ((show Leads I _ ⟨[],[(8,some ⟨5,some (1,(ys++(Ac (zig z))).length),Ad ((ys++(Ac (zig z))).map Aa)⟩),(0,some ⟨67,none,[.sl 8,.i 0]⟩)],9⟩ ⟨[],[(2,some ⟨5,some (1,(ys++(Ac (zig z))).length),Ad ((ys++(Ac (zig z))).map Aa)⟩),(0,some ⟨67,none,[.sl 2,.i 0]⟩)],9⟩ from AN [(2,8)] trivial ⟨rfl,rfl,(congrArg (fun m=>some (1,m)) (show (ys++(Ac (zig z))).length=(ys++(Ac (zig z))).length by simp)),ILe.eq (show Ad ((ys++(Ac (zig z))).map Aa)=Ad ((ys++(Ac (zig z))).map Aa) from by simp[Ad]),rfl,rfl,rfl,ILe.refl,trivial⟩))]
theorem Uy (ys:List Nat)(hy:ys.length≤1000000){xs:List Nat}(hx:B8 xs)(h:xs.length≤400):SpM Tryz.prog I 38 [(0,some (wbx 1)),(1,some (bbx ys))] [.one (.ptr 0 0),cS xs] [(2,some (bbx (ys++(Ac xs.length++xs)))),(0,some (wbx 2))] (.tu []):=by
 have h9:=AJ (n:=xs.length) (by omega)
 have hl:(Ac xs.length++xs).length≤1000:=by rw[List.length_append];omega
 exact sm 10 [po (Aad hx h),pom [0,1] (PL (ys) (Ac xs.length++xs) (by omega) (by omega)),pm ((show Leads I _ ⟨[],[(8,some ⟨5,some (1,(ys++(Ac xs.length++xs)).length),Ad ((ys++(Ac xs.length++xs)).map Aa)⟩),(0,some ⟨67,none,[.sl 8,.i 0]⟩)],9⟩ ⟨[],[(2,some ⟨5,some (1,(ys++(Ac xs.length++xs)).length),Ad ((ys++(Ac xs.length++xs)).map Aa)⟩),(0,some ⟨67,none,[.sl 2,.i 0]⟩)],9⟩ from AN [(2,8)] trivial ⟨rfl,rfl,(congrArg (fun m=>some (1,m)) (show (ys++(Ac xs.length++xs)).length=(ys++(Ac xs.length++xs)).length by simp)),ILe.eq (show Ad ((ys++(Ac xs.length++xs)).map Aa)=Ad ((ys++(Ac xs.length++xs)).map Aa) from by simp[Ad]),rfl,rfl,rfl,ILe.refl,trivial⟩))]
theorem AF (n:Int)(b:Bool)(h:DP n=b):Sp Tryz.prog I 85 [ci n] (lb b):=by
 unfold DP at h;by_cases h1:0≤n
 ·by_cases h2:n≤1099511627776
  ·rw[decide_eq_true h1,decide_eq_true h2] at h;subst h
   exact sr 9 [pk (B0 3 n 0),pk (Fn 3 n 1099511627776)]
  ·rw[decide_eq_true h1,decide_eq_false h2] at h;subst h
   exact sr 9 [pk (B0 3 n 0),pk (GK 3 n 1099511627776)]
 ·rw[decide_eq_false h1] at h;subst h
  exact sr 9 [pk (Cu 3 n 0)]
set_option maxRecDepth 100000 in
theorem Adm (x : Ch) (hk : k ≤ 262144) : Sp Tryz.prog I 35 [chK c k x] (lb (Bp x)) := by
 cases h1:DP x.node
 ·rw[show Bp x=false by unfold Bp;simp[h1] <;> decide]
  exact sr 76 [po (AF x.node false h1),pa]
 ·cases h2 : DP x.fst
  ·rw[show Bp x=false by unfold Bp;simp[h1,h2] <;> decide]
   exact sr 76 [po (AF x.node true h1),pa,po (AF x.fst false h2),pa]
  ·cases h3 : DP x.nxt
   ·rw[show Bp x=false by unfold Bp;simp[h1,h2,h3] <;> decide]
    exact sr 76 [po (AF x.node true h1),pa,po (AF x.fst true h2),pa,po (AF x.nxt false h3),pa]
   ·cases h4 : BS x.cost
    ·have h5:=h4
     unfold BS at h5;simp at h5;by_cases h6:x.cost < -288230376151711744
     ·rw[show Bp x=false by unfold Bp;simp[h1,h2,h3,h4] <;> decide]
      exact sr 76 [po (AF x.node true h1),pa,po (AF x.fst true h2),pa,po (AF x.nxt true h3),pa,pk (As 3 x.cost (-288230376151711744))]
     ·rw[show Bp x=false by unfold Bp;simp[h1,h2,h3,h4] <;> decide]
      exact sr 76 [po (AF x.node true h1),pa,po (AF x.fst true h2),pa,po (AF x.nxt true h3),pa,pk (Aj 3 x.cost (-288230376151711744)),pk (BN 3 x.cost 288230376151711744)]
    ·have hcc := Df h4
     by_cases hq:x.q.num.sign=0
     ·by_cases hf : x.fst = 0
      ·by_cases hn : x.nxt = 0
       ·by_cases k1 : x.kind = 1
        ·by_cases hz:x.cost=0
         ·rw[show Bp x=true by unfold Bp;simp[h1,h2,h3,h4,hq,hf,hn,k1,hz] <;> decide]
          exact sr 76 [po (AF x.node true h1),pa,po (AF x.fst true h2),pa,po (AF x.nxt true h3),pa,pk (Aj 3 x.cost (-288230376151711744)),pk (Ao 3 x.cost 288230376151711744),po (Cl (p:=x.q) (c:=c) (k:=k) x.q.num.sign rfl hk),pk (At 3 x.q.num.sign 0),pk (At 3 x.fst 0),pk (At 3 x.nxt 0),pk (Ak 3 x.kind 1),pa,pk (Ak 3 x.cost 0)]
         ·rw[show Bp x=false by unfold Bp;simp[h1,h2,h3,h4,hq,hf,hn,k1,hz] <;> decide]
          exact sr 76 [po (AF x.node true h1),pa,po (AF x.fst true h2),pa,po (AF x.nxt true h3),pa,pk (Aj 3 x.cost (-288230376151711744)),pk (Ao 3 x.cost 288230376151711744),po (Cl (p:=x.q) (c:=c) (k:=k) x.q.num.sign rfl hk),pk (At 3 x.q.num.sign 0),pk (At 3 x.fst 0),pk (At 3 x.nxt 0),pk (Ak 3 x.kind 1),pa,pk (Af 3 x.cost 0)]
        ·by_cases k2:x.kind=2
         ·by_cases hz:x.cost=0
          ·rw[show Bp x=true by unfold Bp;simp[h1,h2,h3,h4,hq,hf,hn,k1,k2,hz] <;> decide]
           exact sr 76 [po (AF x.node true h1),pa,po (AF x.fst true h2),pa,po (AF x.nxt true h3),pa,pk (Aj 3 x.cost (-288230376151711744)),pk (Ao 3 x.cost 288230376151711744),po (Cl (p:=x.q) (c:=c) (k:=k) x.q.num.sign rfl hk),pk (At 3 x.q.num.sign 0),pk (At 3 x.fst 0),pk (At 3 x.nxt 0),pk (Af 3 x.kind 1),pk (Ak 3 x.kind 2),pa,pk (Ak 3 x.cost 0)]
          ·rw[show Bp x=false by unfold Bp;simp[h1,h2,h3,h4,hq,hf,hn,k1,k2,hz] <;> decide]
           exact sr 76 [po (AF x.node true h1),pa,po (AF x.fst true h2),pa,po (AF x.nxt true h3),pa,pk (Aj 3 x.cost (-288230376151711744)),pk (Ao 3 x.cost 288230376151711744),po (Cl (p:=x.q) (c:=c) (k:=k) x.q.num.sign rfl hk),pk (At 3 x.q.num.sign 0),pk (At 3 x.fst 0),pk (At 3 x.nxt 0),pk (Af 3 x.kind 1),pk (Ak 3 x.kind 2),pa,pk (Af 3 x.cost 0)]
         ·by_cases k3:x.kind=3
          ·by_cases hz:x.node=0
           ·rw[show Bp x=true by unfold Bp;simp[h1,h2,h3,h4,hq,hf,hn,k1,k2,k3,hz] <;> decide]
            exact sr 76 [po (AF x.node true h1),pa,po (AF x.fst true h2),pa,po (AF x.nxt true h3),pa,pk (Aj 3 x.cost (-288230376151711744)),pk (Ao 3 x.cost 288230376151711744),po (Cl (p:=x.q) (c:=c) (k:=k) x.q.num.sign rfl hk),pk (At 3 x.q.num.sign 0),pk (At 3 x.fst 0),pk (At 3 x.nxt 0),pk (Af 3 x.kind 1),pk (Af 3 x.kind 2),pk (Ak 3 x.kind 3),pa,pa,pk (Ak 3 x.node 0)]
           ·rw[show Bp x=false by unfold Bp;simp[h1,h2,h3,h4,hq,hf,hn,k1,k2,k3,hz] <;> decide]
            exact sr 76 [po (AF x.node true h1),pa,po (AF x.fst true h2),pa,po (AF x.nxt true h3),pa,pk (Aj 3 x.cost (-288230376151711744)),pk (Ao 3 x.cost 288230376151711744),po (Cl (p:=x.q) (c:=c) (k:=k) x.q.num.sign rfl hk),pk (At 3 x.q.num.sign 0),pk (At 3 x.fst 0),pk (At 3 x.nxt 0),pk (Af 3 x.kind 1),pk (Af 3 x.kind 2),pk (Ak 3 x.kind 3),pa,pa,pk (Af 3 x.node 0)]
          ·rw[show Bp x=false by unfold Bp;simp[h1,h2,h3,h4,hq,hf,hn,k1,k2,k3] <;> decide]
           exact sr 76 [po (AF x.node true h1),pa,po (AF x.fst true h2),pa,po (AF x.nxt true h3),pa,pk (Aj 3 x.cost (-288230376151711744)),pk (Ao 3 x.cost 288230376151711744),po (Cl (p:=x.q) (c:=c) (k:=k) x.q.num.sign rfl hk),pk (At 3 x.q.num.sign 0),pk (At 3 x.fst 0),pk (At 3 x.nxt 0),pk (Af 3 x.kind 1),pk (Af 3 x.kind 2),pk (Af 3 x.kind 3)]
       ·by_cases k1:x.kind=1
        ·rw[show Bp x=false by unfold Bp;simp[h1,h2,h3,h4,hq,hf,hn,k1] <;> decide]
         exact sr 76 [po (AF x.node true h1),pa,po (AF x.fst true h2),pa,po (AF x.nxt true h3),pa,pk (Aj 3 x.cost (-288230376151711744)),pk (Ao 3 x.cost 288230376151711744),po (Cl (p:=x.q) (c:=c) (k:=k) x.q.num.sign rfl hk),pk (At 3 x.q.num.sign 0),pk (At 3 x.fst 0),pk (AR 3 x.nxt 0),pk (Ak 3 x.kind 1),pa]
        ·by_cases k2:x.kind=2
         ·by_cases hz:x.cost=0
          ·rw[show Bp x=true by unfold Bp;simp[h1,h2,h3,h4,hq,hf,hn,k1,k2,hz] <;> decide]
           exact sr 76 [po (AF x.node true h1),pa,po (AF x.fst true h2),pa,po (AF x.nxt true h3),pa,pk (Aj 3 x.cost (-288230376151711744)),pk (Ao 3 x.cost 288230376151711744),po (Cl (p:=x.q) (c:=c) (k:=k) x.q.num.sign rfl hk),pk (At 3 x.q.num.sign 0),pk (At 3 x.fst 0),pk (AR 3 x.nxt 0),pk (Af 3 x.kind 1),pk (Ak 3 x.kind 2),pa,pk (Ak 3 x.cost 0)]
          ·rw[show Bp x=false by unfold Bp;simp[h1,h2,h3,h4,hq,hf,hn,k1,k2,hz] <;> decide]
           exact sr 76 [po (AF x.node true h1),pa,po (AF x.fst true h2),pa,po (AF x.nxt true h3),pa,pk (Aj 3 x.cost (-288230376151711744)),pk (Ao 3 x.cost 288230376151711744),po (Cl (p:=x.q) (c:=c) (k:=k) x.q.num.sign rfl hk),pk (At 3 x.q.num.sign 0),pk (At 3 x.fst 0),pk (AR 3 x.nxt 0),pk (Af 3 x.kind 1),pk (Ak 3 x.kind 2),pa,pk (Af 3 x.cost 0)]
         ·by_cases k3:x.kind=3
          ·rw[show Bp x=false by unfold Bp;simp[h1,h2,h3,h4,hq,hf,hn,k1,k2,k3] <;> decide]
           exact sr 76 [po (AF x.node true h1),pa,po (AF x.fst true h2),pa,po (AF x.nxt true h3),pa,pk (Aj 3 x.cost (-288230376151711744)),pk (Ao 3 x.cost 288230376151711744),po (Cl (p:=x.q) (c:=c) (k:=k) x.q.num.sign rfl hk),pk (At 3 x.q.num.sign 0),pk (At 3 x.fst 0),pk (AR 3 x.nxt 0),pk (Af 3 x.kind 1),pk (Af 3 x.kind 2),pk (Ak 3 x.kind 3),pa,pa]
          ·rw[show Bp x=false by unfold Bp;simp[h1,h2,h3,h4,hq,hf,hn,k1,k2,k3] <;> decide]
           exact sr 76 [po (AF x.node true h1),pa,po (AF x.fst true h2),pa,po (AF x.nxt true h3),pa,pk (Aj 3 x.cost (-288230376151711744)),pk (Ao 3 x.cost 288230376151711744),po (Cl (p:=x.q) (c:=c) (k:=k) x.q.num.sign rfl hk),pk (At 3 x.q.num.sign 0),pk (At 3 x.fst 0),pk (AR 3 x.nxt 0),pk (Af 3 x.kind 1),pk (Af 3 x.kind 2),pk (Af 3 x.kind 3)]
      ·by_cases k1:x.kind=1
       ·rw[show Bp x=false by unfold Bp;simp[h1,h2,h3,h4,hq,hf,k1] <;> decide]
        exact sr 76 [po (AF x.node true h1),pa,po (AF x.fst true h2),pa,po (AF x.nxt true h3),pa,pk (Aj 3 x.cost (-288230376151711744)),pk (Ao 3 x.cost 288230376151711744),po (Cl (p:=x.q) (c:=c) (k:=k) x.q.num.sign rfl hk),pk (At 3 x.q.num.sign 0),pk (AR 3 x.fst 0),pk (Ak 3 x.kind 1),pa]
       ·by_cases k2:x.kind=2
        ·by_cases hz:x.cost=0
         ·rw[show Bp x=true by unfold Bp;simp[h1,h2,h3,h4,hq,hf,k1,k2,hz] <;> decide]
          exact sr 76 [po (AF x.node true h1),pa,po (AF x.fst true h2),pa,po (AF x.nxt true h3),pa,pk (Aj 3 x.cost (-288230376151711744)),pk (Ao 3 x.cost 288230376151711744),po (Cl (p:=x.q) (c:=c) (k:=k) x.q.num.sign rfl hk),pk (At 3 x.q.num.sign 0),pk (AR 3 x.fst 0),pk (Af 3 x.kind 1),pk (Ak 3 x.kind 2),pa,pk (Ak 3 x.cost 0)]
         ·rw[show Bp x=false by unfold Bp;simp[h1,h2,h3,h4,hq,hf,k1,k2,hz] <;> decide]
          exact sr 76 [po (AF x.node true h1),pa,po (AF x.fst true h2),pa,po (AF x.nxt true h3),pa,pk (Aj 3 x.cost (-288230376151711744)),pk (Ao 3 x.cost 288230376151711744),po (Cl (p:=x.q) (c:=c) (k:=k) x.q.num.sign rfl hk),pk (At 3 x.q.num.sign 0),pk (AR 3 x.fst 0),pk (Af 3 x.kind 1),pk (Ak 3 x.kind 2),pa,pk (Af 3 x.cost 0)]
        ·by_cases k3:x.kind=3
         ·rw[show Bp x=false by unfold Bp;simp[h1,h2,h3,h4,hq,hf,k1,k2,k3] <;> decide]
          exact sr 76 [po (AF x.node true h1),pa,po (AF x.fst true h2),pa,po (AF x.nxt true h3),pa,pk (Aj 3 x.cost (-288230376151711744)),pk (Ao 3 x.cost 288230376151711744),po (Cl (p:=x.q) (c:=c) (k:=k) x.q.num.sign rfl hk),pk (At 3 x.q.num.sign 0),pk (AR 3 x.fst 0),pk (Af 3 x.kind 1),pk (Af 3 x.kind 2),pk (Ak 3 x.kind 3),pa,pa]
         ·rw[show Bp x=false by unfold Bp;simp[h1,h2,h3,h4,hq,hf,k1,k2,k3] <;> decide]
          exact sr 76 [po (AF x.node true h1),pa,po (AF x.fst true h2),pa,po (AF x.nxt true h3),pa,pk (Aj 3 x.cost (-288230376151711744)),pk (Ao 3 x.cost 288230376151711744),po (Cl (p:=x.q) (c:=c) (k:=k) x.q.num.sign rfl hk),pk (At 3 x.q.num.sign 0),pk (AR 3 x.fst 0),pk (Af 3 x.kind 1),pk (Af 3 x.kind 2),pk (Af 3 x.kind 3)]
     ·by_cases hf : x.fst = 0
      ·by_cases hn : x.nxt = 0
       ·by_cases k1:x.kind=1
        ·by_cases hz:x.cost=0
         ·rw[show Bp x=true by unfold Bp;simp[h1,h2,h3,h4,hq,hf,hn,k1,hz] <;> decide]
          exact sr 76 [po (AF x.node true h1),pa,po (AF x.fst true h2),pa,po (AF x.nxt true h3),pa,pk (Aj 3 x.cost (-288230376151711744)),pk (Ao 3 x.cost 288230376151711744),po (Cl (p:=x.q) (c:=c) (k:=k) x.q.num.sign rfl hk),pk (AR 3 x.q.num.sign 0),pk (At 3 x.fst 0),pk (At 3 x.nxt 0),pk (Ak 3 x.kind 1),pa,pk (Ak 3 x.cost 0)]
         ·rw[show Bp x=false by unfold Bp;simp[h1,h2,h3,h4,hq,hf,hn,k1,hz] <;> decide]
          exact sr 76 [po (AF x.node true h1),pa,po (AF x.fst true h2),pa,po (AF x.nxt true h3),pa,pk (Aj 3 x.cost (-288230376151711744)),pk (Ao 3 x.cost 288230376151711744),po (Cl (p:=x.q) (c:=c) (k:=k) x.q.num.sign rfl hk),pk (AR 3 x.q.num.sign 0),pk (At 3 x.fst 0),pk (At 3 x.nxt 0),pk (Ak 3 x.kind 1),pa,pk (Af 3 x.cost 0)]
        ·by_cases k2:x.kind=2
         ·rw[show Bp x=false by unfold Bp;simp[h1,h2,h3,h4,hq,hf,hn,k1,k2] <;> decide]
          exact sr 76 [po (AF x.node true h1),pa,po (AF x.fst true h2),pa,po (AF x.nxt true h3),pa,pk (Aj 3 x.cost (-288230376151711744)),pk (Ao 3 x.cost 288230376151711744),po (Cl (p:=x.q) (c:=c) (k:=k) x.q.num.sign rfl hk),pk (AR 3 x.q.num.sign 0),pk (At 3 x.fst 0),pk (At 3 x.nxt 0),pk (Af 3 x.kind 1),pk (Ak 3 x.kind 2),pa]
         ·by_cases k3:x.kind=3
          ·rw[show Bp x=false by unfold Bp;simp[h1,h2,h3,h4,hq,hf,hn,k1,k2,k3] <;> decide]
           exact sr 76 [po (AF x.node true h1),pa,po (AF x.fst true h2),pa,po (AF x.nxt true h3),pa,pk (Aj 3 x.cost (-288230376151711744)),pk (Ao 3 x.cost 288230376151711744),po (Cl (p:=x.q) (c:=c) (k:=k) x.q.num.sign rfl hk),pk (AR 3 x.q.num.sign 0),pk (At 3 x.fst 0),pk (At 3 x.nxt 0),pk (Af 3 x.kind 1),pk (Af 3 x.kind 2),pk (Ak 3 x.kind 3),pa]
          ·rw[show Bp x=false by unfold Bp;simp[h1,h2,h3,h4,hq,hf,hn,k1,k2,k3] <;> decide]
           exact sr 76 [po (AF x.node true h1),pa,po (AF x.fst true h2),pa,po (AF x.nxt true h3),pa,pk (Aj 3 x.cost (-288230376151711744)),pk (Ao 3 x.cost 288230376151711744),po (Cl (p:=x.q) (c:=c) (k:=k) x.q.num.sign rfl hk),pk (AR 3 x.q.num.sign 0),pk (At 3 x.fst 0),pk (At 3 x.nxt 0),pk (Af 3 x.kind 1),pk (Af 3 x.kind 2),pk (Af 3 x.kind 3)]
       ·by_cases k1:x.kind=1
        ·rw[show Bp x=false by unfold Bp;simp[h1,h2,h3,h4,hq,hf,hn,k1] <;> decide]
         exact sr 76 [po (AF x.node true h1),pa,po (AF x.fst true h2),pa,po (AF x.nxt true h3),pa,pk (Aj 3 x.cost (-288230376151711744)),pk (Ao 3 x.cost 288230376151711744),po (Cl (p:=x.q) (c:=c) (k:=k) x.q.num.sign rfl hk),pk (AR 3 x.q.num.sign 0),pk (At 3 x.fst 0),pk (AR 3 x.nxt 0),pk (Ak 3 x.kind 1),pa]
        ·by_cases k2:x.kind=2
         ·rw[show Bp x=false by unfold Bp;simp[h1,h2,h3,h4,hq,hf,hn,k1,k2] <;> decide]
          exact sr 76 [po (AF x.node true h1),pa,po (AF x.fst true h2),pa,po (AF x.nxt true h3),pa,pk (Aj 3 x.cost (-288230376151711744)),pk (Ao 3 x.cost 288230376151711744),po (Cl (p:=x.q) (c:=c) (k:=k) x.q.num.sign rfl hk),pk (AR 3 x.q.num.sign 0),pk (At 3 x.fst 0),pk (AR 3 x.nxt 0),pk (Af 3 x.kind 1),pk (Ak 3 x.kind 2),pa]
         ·by_cases k3:x.kind=3
          ·rw[show Bp x=false by unfold Bp;simp[h1,h2,h3,h4,hq,hf,hn,k1,k2,k3] <;> decide]
           exact sr 76 [po (AF x.node true h1),pa,po (AF x.fst true h2),pa,po (AF x.nxt true h3),pa,pk (Aj 3 x.cost (-288230376151711744)),pk (Ao 3 x.cost 288230376151711744),po (Cl (p:=x.q) (c:=c) (k:=k) x.q.num.sign rfl hk),pk (AR 3 x.q.num.sign 0),pk (At 3 x.fst 0),pk (AR 3 x.nxt 0),pk (Af 3 x.kind 1),pk (Af 3 x.kind 2),pk (Ak 3 x.kind 3),pa]
          ·rw[show Bp x=false by unfold Bp;simp[h1,h2,h3,h4,hq,hf,hn,k1,k2,k3] <;> decide]
           exact sr 76 [po (AF x.node true h1),pa,po (AF x.fst true h2),pa,po (AF x.nxt true h3),pa,pk (Aj 3 x.cost (-288230376151711744)),pk (Ao 3 x.cost 288230376151711744),po (Cl (p:=x.q) (c:=c) (k:=k) x.q.num.sign rfl hk),pk (AR 3 x.q.num.sign 0),pk (At 3 x.fst 0),pk (AR 3 x.nxt 0),pk (Af 3 x.kind 1),pk (Af 3 x.kind 2),pk (Af 3 x.kind 3)]
      ·by_cases k1:x.kind=1
       ·rw[show Bp x=false by unfold Bp;simp[h1,h2,h3,h4,hq,hf,k1] <;> decide]
        exact sr 76 [po (AF x.node true h1),pa,po (AF x.fst true h2),pa,po (AF x.nxt true h3),pa,pk (Aj 3 x.cost (-288230376151711744)),pk (Ao 3 x.cost 288230376151711744),po (Cl (p:=x.q) (c:=c) (k:=k) x.q.num.sign rfl hk),pk (AR 3 x.q.num.sign 0),pk (AR 3 x.fst 0),pk (Ak 3 x.kind 1),pa]
       ·by_cases k2:x.kind=2
        ·rw[show Bp x=false by unfold Bp;simp[h1,h2,h3,h4,hq,hf,k1,k2] <;> decide]
         exact sr 76 [po (AF x.node true h1),pa,po (AF x.fst true h2),pa,po (AF x.nxt true h3),pa,pk (Aj 3 x.cost (-288230376151711744)),pk (Ao 3 x.cost 288230376151711744),po (Cl (p:=x.q) (c:=c) (k:=k) x.q.num.sign rfl hk),pk (AR 3 x.q.num.sign 0),pk (AR 3 x.fst 0),pk (Af 3 x.kind 1),pk (Ak 3 x.kind 2),pa]
        ·by_cases k3:x.kind=3
         ·rw[show Bp x=false by unfold Bp;simp[h1,h2,h3,h4,hq,hf,k1,k2,k3] <;> decide]
          exact sr 76 [po (AF x.node true h1),pa,po (AF x.fst true h2),pa,po (AF x.nxt true h3),pa,pk (Aj 3 x.cost (-288230376151711744)),pk (Ao 3 x.cost 288230376151711744),po (Cl (p:=x.q) (c:=c) (k:=k) x.q.num.sign rfl hk),pk (AR 3 x.q.num.sign 0),pk (AR 3 x.fst 0),pk (Af 3 x.kind 1),pk (Af 3 x.kind 2),pk (Ak 3 x.kind 3),pa]
         ·rw[show Bp x=false by unfold Bp;simp[h1,h2,h3,h4,hq,hf,k1,k2,k3] <;> decide]
          exact sr 76 [po (AF x.node true h1),pa,po (AF x.fst true h2),pa,po (AF x.nxt true h3),pa,pk (Aj 3 x.cost (-288230376151711744)),pk (Ao 3 x.cost 288230376151711744),po (Cl (p:=x.q) (c:=c) (k:=k) x.q.num.sign rfl hk),pk (AR 3 x.q.num.sign 0),pk (AR 3 x.fst 0),pk (Af 3 x.kind 1),pk (Af 3 x.kind 2),pk (Af 3 x.kind 3)]
theorem Ads (q:Rat)(hk:k≤1000):Sp Tryz.prog D4 37 [fc c k q] (tS (BK q)):=QT (fun n d a e=>by subst e;exact AbE a hk) (by omega)
theorem Ace {n:Nat}{q:Rat}(hn:n≤1099511627776)(hw:Sp Tryz.prog D4 35 [chK c k ⟨1,(n:Int),q,0,0,0⟩] (lb true))(s:List Nat)(hs8:B8 s)(hf:Sp Tryz.prog D4 37 [fc c k q] (tS s)):(s.length≤400→Sp Tryz.prog D4 13 [chK c k ⟨1,(n:Int),q,0,0,0⟩] (.tu [.t (bI (Ac 1++(Ac n)++(Ac s.length++s))),ci 0]))∧(400 < s.length→Sp Tryz.prog D4 13 [chK c k ⟨1,(n:Int),q,0,0,0⟩] (.tu [.one (.z),ci 10])):=by
 have hn':n≤4611686018427387904:=by omega
 have h1:=AJ (n:=1) (by omega)
 have h2:=AJ hn';constructor
 ·intro hl
  exact sr 44 [po (hw),pa,pom [6] (GM 1 (by omega)),pom [6,9] (Em (Ac 1) (by first | omega | (simp;omega)) n hn'),pa,po (hf),pk (Bf 9 3 s),pk (Ao 3 (s.length:Int) 400),pom [6,12] (Uy (Ac 1++(Ac n)) (by simp;omega) hs8 (by omega)),⟨.part ([.sl 25,.i 0]) 0 1 [.sl 25],rfl⟩,⟨.part ([.sl 25,.i 0]) 1 1 [.i 0],rfl⟩,pm (AH (I:=D4) (t:=2) (k:=25) (E:=[(0,.cv (.ag [.i 1,.i (n:Int),.b (.it (fF c k q)),.i 0,.i 0,.i 0])),(1,.p 0 0),(3,.i 0),(6,.cv (.ag [.i 1,.i (n:Int),.b (.it (fF c k q)),.i 0,.i 0,.i 0])),(7,.o true),(8,.o false),(4,.p 6 0),(9,.p 0 0),(10,.i 1),(11,.tu []),(12,.p 0 1),(13,.i (n:Int)),(14,.tu []),(15,.p 0 0),(16,.i 1),(18,.o true),(17,.o true),(19,.p 0 2),(20,.cv (.ag [.b (.it (fF c k q))])),(21,.cv (.one (.b (.lit (.string (AM s)))))),(5,.cv (.one (.b (.lit (.string (AM s)))))),(22,.cv (.one (.b (.lit (.string (AM s)))))),(23,.i (s.length:Int)),(24,.o false),(25,.cv (.one (.b (.lit (.string (AM s)))))),(26,.tu []),(40,.p 6 0),(41,.s 25),(42,.p 6 1),(43,.i 0)]) (B:=[(0,some ⟨28,none,[.i 1,.i (n:Int),.b (.it (fF c k q)),.i 0,.i 0,.i 0]⟩),(6,some ⟨67,none,[.sl 25,.i 0]⟩)]) (nx:=32) (T:=5) (sz:=1) (n:=((Ac 1++(Ac n)++(Ac s.length++s)).length)) ((Ac 1++(Ac n)++(Ac s.length++s)).map Aa) rfl (by simp) AU rfl)]
 ·intro hl
  exact sr 44 [po (hw),pa,pom [6] (GM 1 (by omega)),pom [6,9] (Em (Ac 1) (by first | omega | (simp;omega)) n hn'),pa,po (hf),pk (Bf 9 3 s),pk (BN 3 (s.length:Int) 400)]
theorem Acd {n a b:Nat}{q:Rat}(hn:n≤1099511627776)(ha:a≤1099511627776)(hb:b≤1099511627776)(hw:Sp Tryz.prog D4 35 [chK c k ⟨2,(n:Int),q,(a:Int),(b:Int),0⟩] (lb true)):Sp Tryz.prog D4 13 [chK c k ⟨2,(n:Int),q,(a:Int),(b:Int),0⟩] (.tu [.t (bI (Ac 2++(Ac n)++(Ac a)++(Ac b))),ci 0]):=by
 have hn':n≤4611686018427387904:=by omega
 have ha':a≤4611686018427387904:=by omega
 have hb':b≤4611686018427387904:=by omega
 have h1:=AJ (n:=2) (by omega)
 have h2:=AJ hn';have h3:=AJ ha';exact sr 44 [po (hw),pa,pom [6] (GM 2 (by omega)),pom [6,9] (Em (Ac 2) (by first | omega | (simp;omega)) n hn'),pa,pa,pom [6,12] (Em (Ac 2++(Ac n)) (by first | omega | (simp;omega)) a ha'),pom [6,21] (Em (Ac 2++(Ac n)++(Ac a)) (by first | omega | (simp;omega)) b hb'),⟨.part ([.sl 24,.i 0]) 0 1 [.sl 24],rfl⟩,⟨.part ([.sl 24,.i 0]) 1 1 [.i 0],rfl⟩,pm (AH (I:=D4) (t:=2) (k:=24) (E:=[(0,.cv (.ag [.i 2,.i (n:Int),.b (.it (fF c k q)),.i (a:Int),.i (b:Int),.i 0])),(1,.p 0 0),(3,.i 0),(6,.cv (.ag [.i 2,.i (n:Int),.b (.it (fF c k q)),.i (a:Int),.i (b:Int),.i 0])),(7,.o true),(8,.o false),(4,.p 6 0),(9,.p 0 0),(10,.i 2),(11,.tu []),(12,.p 0 1),(13,.i (n:Int)),(14,.tu []),(15,.p 0 0),(16,.i 2),(18,.o false),(17,.o false),(28,.o true),(27,.o true),(29,.p 0 6),(30,.i (a:Int)),(31,.tu []),(32,.p 0 7),(33,.i (b:Int)),(34,.tu []),(40,.p 6 0),(41,.s 24),(42,.p 6 1),(43,.i 0)]) (B:=[(0,some ⟨28,none,[.i 2,.i (n:Int),.b (.it (fF c k q)),.i (a:Int),.i (b:Int),.i 0]⟩),(6,some ⟨67,none,[.sl 24,.i 0]⟩)]) (nx:=31) (T:=5) (sz:=1) (n:=((Ac 2++(Ac n)++(Ac a)++(Ac b)).length)) ((Ac 2++(Ac n)++(Ac a)++(Ac b)).map Aa) rfl (by simp) AU rfl)]
theorem Acc {n:Nat}{z:Int}{q:Rat}(hn:n≤1099511627776)(hz:BS z=true)(hw:Sp Tryz.prog D4 35 [chK c k ⟨3,(n:Int),q,0,0,z⟩] (lb true)):Sp Tryz.prog D4 13 [chK c k ⟨3,(n:Int),q,0,0,z⟩] (.tu [.t (bI (Ac 3++(Ac n)++(Ac (zig z)))),ci 0]):=by
 have hn':n≤4611686018427387904:=by omega
 have h1:=AJ (n:=3) (by omega)
 have h2:=AJ hn';exact sr 44 [po (hw),pa,pom [6] (GM 3 (by omega)),pom [6,9] (Em (Ac 3) (by first | omega | (simp;omega)) n hn'),pa,pa,pa,pom [6,12] (Wa (Ac 3++(Ac n)) (by simp;omega) z hz),⟨.part ([.sl 23,.i 0]) 0 1 [.sl 23],rfl⟩,⟨.part ([.sl 23,.i 0]) 1 1 [.i 0],rfl⟩,pm (AH (I:=D4) (t:=2) (k:=23) (E:=[(0,.cv (.ag [.i 3,.i (n:Int),.b (.it (fF c k q)),.i 0,.i 0,.i z])),(1,.p 0 0),(3,.i 0),(6,.cv (.ag [.i 3,.i (n:Int),.b (.it (fF c k q)),.i 0,.i 0,.i z])),(7,.o true),(8,.o false),(4,.p 6 0),(9,.p 0 0),(10,.i 3),(11,.tu []),(12,.p 0 1),(13,.i (n:Int)),(14,.tu []),(15,.p 0 0),(16,.i 3),(18,.o false),(17,.o false),(28,.o false),(27,.o false),(36,.o true),(35,.o true),(37,.p 0 8),(38,.i z),(39,.tu []),(40,.p 6 0),(41,.s 23),(42,.p 6 1),(43,.i 0)]) (B:=[(0,some ⟨28,none,[.i 3,.i (n:Int),.b (.it (fF c k q)),.i 0,.i 0,.i z]⟩),(6,some ⟨67,none,[.sl 23,.i 0]⟩)]) (nx:=30) (T:=5) (sz:=1) (n:=((Ac 3++(Ac n)++(Ac (zig z))).length)) ((Ac 3++(Ac n)++(Ac (zig z))).map Aa) rfl (by simp) AU rfl)]
theorem Acf (x:Ch)(hw:Sp Tryz.prog D4 35 [chK c k x] (lb false)):Sp Tryz.prog D4 13 [chK c k x] (.tu [.one (.z),ci 5]) :=
 sr 44 [po (hw),pa]
theorem Vo {f:FuncId}{args:List CT}{e:Int}(h:Sp Tryz.prog I f args (.tu [.one (.z),ci e])):Sp Tryz.prog I f args (.tu [.t (bI []),ci e]):=h.rs (KS ⟨XLe.one H7,CTle.refl,trivial⟩)
theorem LJ {x:Ch}(h:Bp x=true) : ∃ n:Nat,n≤1099511627776∧x.node=(n:Int)∧((x.kind=1∧x.fst=0∧x.nxt=0∧x.cost=0)∨(x.kind=2∧x.q.num.sign=0∧x.cost=0 ∧ ∃ a b:Nat,a≤1099511627776∧b≤1099511627776∧x.fst=(a:Int)∧x.nxt=(b:Int))∨(x.kind=3∧x.q.num.sign=0∧x.fst=0∧x.nxt=0∧n=0∧BS x.cost=true)):=by
 unfold Bp at h;simp only[Bool.and_eq_true] at h;obtain ⟨⟨⟨⟨h1,h2⟩,h3⟩,h4⟩,h5⟩:=h;have g1:=OZ h1;have g2:=OZ h2;have g3:=OZ h3;refine ⟨x.node.toNat,by omega,by omega,?_⟩
 by_cases k1:x.kind=1
 ·rw[if_pos k1] at h5
  simp at h5;exact .inl ⟨k1,h5.1.1,h5.1.2,h5.2⟩
 ·rw[if_neg k1] at h5
  by_cases k2:x.kind=2
  ·rw[if_pos k2] at h5
   simp at h5;exact .inr (.inl ⟨k2,by rw[h5.1];rfl,h5.2,x.fst.toNat,x.nxt.toNat,by omega,by omega,by omega,by omega⟩)
  ·rw[if_neg k2] at h5
   by_cases k3:x.kind=3
   ·rw[if_pos k3] at h5
    simp at h5;exact .inr (.inr ⟨k3,by rw[h5.1.1.1];rfl,h5.1.1.2,h5.1.2,by omega,h4⟩)
   ·rw[if_neg k3] at h5;cases h5
theorem SF (x:Ch)(hk:k≤1000):Sp Tryz.prog D4 13 [chK c k x] (.tu [.t (bI (Bb x).1),ci (Bb x).2]):=by
 have hw:=Adm (I:=D4) (c:=c) (k:=k) x (by omega)
 unfold Bb;cases hb:Bp x with
 | false =>
  rw[hb] at hw;rw[if_pos rfl];exact Vo (Acf x hw)
 | true =>
  rw[hb] at hw;rw[if_neg (by decide)]
  obtain ⟨n,hn,e1,h⟩:=LJ hb;obtain ⟨kind,node,q,fst,nxt,cost⟩:=x;simp only at e1 h;subst e1;rcases h with ⟨rfl,rfl,rfl,rfl⟩ | ⟨rfl,hs,rfl,a,b,ha,hb',rfl,rfl⟩ | ⟨rfl,hs,rfl,rfl,rfl,hz⟩
  ·obtain ⟨p1,p2⟩:=Ace hn hw (BK q) (JN q) (Ads q hk)
   by_cases hl:400 < (BK q).length
   ·rw[if_pos ⟨rfl,hl⟩]
    exact Vo (p2 hl)
   ·rw[if_neg (fun h=>hl h.2)]
    exact p1 (by omega)
  ·rw[if_neg (fun h=>by cases h.1)]
   have:=Acd hn ha hb' hw;rw[List.append_assoc] at this;exact this
  ·rw[if_neg (fun h=>by cases h.1)]
   exact Acc hn hz hw
end
def Vf (l:List Nat)(i:Nat):Int:=if 48≤l.getD i 0∧l.getD i 0≤57 then 0 else 1
theorem TB {l:List Nat}:AT (Vf l) l.length 0=0↔okD l:=by
 constructor
 ·intro h
  refine OX fun k hk => ?_
  have:=Bn.1 h k (Nat.zero_le _) (by omega)
  unfold Vf at this;split at this
  ·assumption
  ·omega
 ·intro h
  refine Bn.2 fun k _ hk => ?_
  unfold Vf;rw[if_pos (h.getD (by omega))]
theorem b0:B8 []:=fun x hx=>by cases hx
theorem JC {l:List Nat}(h:B8 l):B8 (Bi l):=by unfold Bi;split;exact h.drop 1;exact h
theorem CQ (l:List Nat):(Bi l).length≤l.length:=by unfold Bi;split <;> simp
section
variable {I:WInv}
def Ve (part:List Nat)(neg:Bool)(z i:Int):Go.Proofs.YtdgbealknnmkoaaGreatDoor.St:=⟨[(1,.cv (.one (.b (.lit (.string (AM part)))))),(4,.p 0 0),(6,.o neg),(7,.p 11 0),(36,.i ((part.length:Nat):Int)),(37,.i i)],[(0,some ⟨26,none,[.o false,.z,.o false,.z]⟩),(11,some ⟨24,none,[.b (.it (IP (cP z)))]⟩)],50⟩
theorem OU (part:List Nat)(neg:Bool)(z:Int)(hpb:B8 part)(hl:part.length≤1000):(okD part→LoopTr Tryz.prog I 81 (Bj Tryz.prog 103 0) (Ve part neg z ((0:Nat):Int)) (.exit 0) ⟨[(1,.cv (.one (.b (.lit (.string (AM part)))))),(4,.p 0 0),(6,.o neg),(7,.p 11 0)],[(0,some ⟨26,none,[.o false,.z,.o false,.z]⟩),(11,some ⟨24,none,[.b (.it (IP (cP z)))]⟩)],50⟩)∧(¬ okD part→LoopTr Tryz.prog I 81 (Bj Tryz.prog 103 0) (Ve part neg z ((0:Nat):Int)) .ret ⟨[(4,.p 0 0),(5,.i 1)],[(0,some ⟨26,none,[.o false,.z,.o false,.z]⟩)],50⟩):=by
 have loop:=CS (P:=Tryz.prog) (I:=I) (nt:=81) (c:=Bj Tryz.prog 103 0) (e:=0) (b0:=⟨[(1,.cv (.one (.b (.lit (.string (AM part)))))),(4,.p 0 0),(6,.o neg),(7,.p 11 0)],[(0,some ⟨26,none,[.o false,.z,.o false,.z]⟩),(11,some ⟨24,none,[.b (.it (IP (cP z)))]⟩)],50⟩) (Vf part) part.length (fun i=>Ve part neg z (i:Int)) (fun _=>⟨[(4,.p 0 0),(5,.i 1)],[(0,some ⟨26,none,[.o false,.z,.o false,.z]⟩)],50⟩) (fun i hi hc => ?_) ?_ (fun i hi hc => ?_)
 ·exact ⟨fun h=>loop.1 (TB.2 h),fun h=>loop.2 fun h'=>h (TB.1 h')⟩
 ·unfold Vf at hc
  split at hc
  ·rename_i hh
   have h1:decide (((part.getD i 0:Nat):Int) < 48)=false:=decide_eq_false (by omega)
   have h2:decide ((57:Int) < ((part.getD i 0:Nat):Int))=false:=decide_eq_false (by omega)
   exact rr [pk (As 3 (i:Int) ((part.length:Nat):Int)),pk (Dv 9 part i _ rfl hi hpb),pk (SY 5 ((part.getD i 0:Nat):Int) 48 false h1),pk (Dv 9 part i _ rfl hi hpb),pk (YR 5 ((part.getD i 0:Nat):Int) 57 false h2),pk (Az 3 (i:Int) 1 ⟨by omega,by omega⟩)]
  ·omega
 ·exact rr [pk (Aj 3 ((part.length:Nat):Int) ((part.length:Nat):Int))]
 ·unfold Vf at hc
  split at hc
  ·omega
  ·by_cases hh:part.getD i 0 < 48
   ·have h1:decide (((part.getD i 0:Nat):Int) < 48)=true:=decide_eq_true (by omega)
    exact rr [pk (As 3 (i:Int) ((part.length:Nat):Int)),pk (Dv 9 part i _ rfl hi hpb),pk (SY 5 ((part.getD i 0:Nat):Int) 48 true h1)]
   ·have h1:decide (((part.getD i 0:Nat):Int) < 48)=false:=decide_eq_false (by omega)
    have h2:decide ((57:Int) < ((part.getD i 0:Nat):Int))=true:=decide_eq_true (by omega)
    exact rr [pk (As 3 (i:Int) ((part.length:Nat):Int)),pk (Dv 9 part i _ rfl hi hpb),pk (SY 5 ((part.getD i 0:Nat):Int) 48 false h1),pk (Dv 9 part i _ rfl hi hpb),pk (YR 5 ((part.getD i 0:Nat):Int) 57 true h2)]
theorem AbH {whole part:List Nat}(hw:B8 whole)(hpb:B8 part)(hwl:whole.length≤400)(hl:part.length≤400)(h : ¬ (Hi (Bi whole)∧part≠[]∧okD part)):Sp Tryz.prog I 103 [cS whole,cS part] (.tu [frz,ci 1]):=by
 have hbl:=CQ whole;have hh:=XL (I:=I) hw;by_cases D:Hi (Bi whole)
 ·have pp:=C8 (I:=I) (JC hw) (GT D (by omega)) (by omega)
  have lz:=Dz D.2.1 (by omega)
  obtain ⟨z,hz⟩ : ∃ z:Int,((nd (Bi whole):Nat):Int)=z:=⟨_,rfl⟩;have hs:decide (z.sign < 0)=false:=decide_eq_false fun hh=>by have:=Int.sign_neg_iff.1 hh;omega
  rw[hz] at pp lz;have sg:=BL (I:=I) z.sign (Bm lz (by omega)) rfl
  generalize BD whole=neg at *;by_cases h0:part=[]
  ·have h0':part.length=0:=by rw[h0];rfl
   cases neg <;> exact sr 81 [po hh,po (Ea hw),po pp,po sg,pk (EQ 3 z.sign 0 false hs),pk (Bf 9 3 part),pk (Ak 3 ((part.length:Nat):Int) 0)]
  ·have h0':part.length≠0:=fun hh=>h0 (List.eq_nil_of_length_eq_zero hh)
   cases neg
   ·have lo:=(OU (I:=I) part false z hpb (by omega)).2 fun hh=>h ⟨D,h0,hh⟩
    unfold Ve at lo;exact sr 81 [po hh,po (Ea hw),po pp,po sg,pk (EQ 3 z.sign 0 false hs),pk (Bf 9 3 part),pk (Af 3 ((part.length:Nat):Int) 0),pk (Bf 9 3 part),pl lo]
   ·have lo:=(OU (I:=I) part true z hpb (by omega)).2 fun hh=>h ⟨D,h0,hh⟩
    unfold Ve at lo;exact sr 81 [po hh,po (Ea hw),po pp,po sg,pk (EQ 3 z.sign 0 false hs),pk (Bf 9 3 part),pk (Af 3 ((part.length:Nat):Int) 0),pk (Bf 9 3 part),pl lo]
 ·by_cases G:CP (BD (Bi whole)) (Bi (Bi whole))
  ·have pp:=C8 (I:=I) (JC hw) (JB G (by omega)) (by omega)
   have lz:Lim 84 (sgn (BD (Bi whole)) (nd (Bi (Bi whole)))):=(Dz G.1.2.1 (by have:=CQ (Bi whole);omega)).sgn _
   have hneg:=QZ G D;generalize sgn (BD (Bi whole)) (nd (Bi (Bi whole)))=z at *;have hs:decide (z.sign < 0)=true:=decide_eq_true (Int.sign_neg_iff.2 hneg);have sg:=BL (I:=I) z.sign (Bm lz (by omega)) rfl
   generalize BD whole=neg at *;cases neg <;> exact sr 81 [po hh,po (Ea hw),po pp,po sg,pk (EQ 3 z.sign 0 true hs)]
  ·have pp:=C8 (I:=I) (JC hw) (OV G (by omega)) (by omega)
   generalize BD whole=neg at *;cases neg <;> exact sr 81 [po hh,po (Ea hw),po pp]
theorem Z9 {whole part:List Nat}(hw:B8 whole)(hwl:whole.length+part.length≤399)(D:Hi (Bi whole))(hp0:part≠[])(hp:okD part):Sp Tryz.prog I 103 [cS whole,cS part] (.tu [frc (Rat.divInt (sgn (BD whole) (nd (Bi whole++part))) ((10 ^ part.length:Nat):Int)),ci 0]):=by
 have hbl:=CQ whole;have hh:=XL (I:=I) hw;have hpb:=hp.b8;have hp0':part.length≠0:=fun hh=>hp0 (List.eq_nil_of_length_eq_zero hh)
 have pp:=C8 (I:=I) (JC hw) (GT D (by omega)) (by omega)
 have lz:=Dz D.2.1 (by omega)
 have lpt:=Dz hp (by omega)
 have lN:=Dz (D.2.1.app hp) (by rw[List.length_append];omega)
 have eN:((nd (Bi whole++part):Nat):Int)=((nd (Bi whole):Nat):Int)*((10 ^ part.length:Nat):Int)+((nd part:Nat):Int):=by
  rw[K7,Int.natCast_add,Int.natCast_mul]
 obtain ⟨M,hM⟩ : ∃ M,nd (Bi whole++part)=M:=⟨_,rfl⟩;rw[hM] at eN lN ⊢;obtain ⟨z,hz⟩ : ∃ z:Int,((nd (Bi whole):Nat):Int)=z:=⟨_,rfl⟩;have hs:decide (z.sign < 0)=false:=decide_eq_false fun hh=>by have:=Int.sign_neg_iff.1 hh;omega
 rw[hz] at pp lz eN;have sg:=BL (I:=I) z.sign (Bm lz (by omega)) rfl
 have hrb:B8 (part.dropWhile (· == 48)):=fun x hx=>hpb x ((List.dropWhile_sublist _).subset hx)
 have hrl:(part.dropWhile (· == 48)).length≤part.length:=(List.dropWhile_sublist _).length_le;have rp:=AcM (I:=I) part.length (by omega)
 have ps:Sp Tryz.prog I 101 [cS ([49]++List.replicate part.length 48)] (.tu [.ag (ic ((10 ^ part.length:Nat):Int)),ci 0]):=by
  have:=C8 (I:=I) (Rt part.length).2.1.b8 (GT (Rt part.length) (by simp;omega)) (by simp;omega)
  rw[AbM] at this;exact this
 have lt:=Tj (k:=part.length) (by omega)
 have tn:=Abn part.length;generalize ((10 ^ part.length:Nat):Int)=t at *;have nt:=Bm lt (by omega)
 have mu:=X0 (I:=I) (Bm lz (by omega)) nt
 have lm:=lz.mul lt;have lo0:=fun b=>(OU (I:=I) part b z hpb (by omega)).1 hp
 unfold Ve at lo0;have ng:=FU (I:=I) (Bm lN (by omega))
 have r0:=En (I:=I) (Bm lN (by omega)) nt (lN.mono (by omega)) (lt.mono (by omega)) tn
 have r1:=En (I:=I) (Bm lN.neg (by omega)) nt (lN.neg.mono (by omega)) (lt.mono (by omega)) tn
 generalize BD whole=neg at *;by_cases hr:part.dropWhile (· == 48)=[]
 ·have e0:nd part=0:=by rw[←QC,hr];rfl
  have ad:=PK (I:=I) (Bm lm (by omega)) OY
  rw[show z*t+0=(M:Int) by rw[eN,e0];simp] at ad
  cases neg
  ·have lo:=lo0 false
   have re:=r0;exact sr 81 [po hh,po (Ea hw),po pp,po sg,pk (EQ 3 z.sign 0 false hs),pk (Bf 9 3 part),pk (Af 3 ((part.length:Nat):Int) 0),pk (Bf 9 3 part),pl lo,po (Lz hpb),pk (Kq 9 (part.dropWhile (· == 48)) [] false (decide_eq_true hr) hrb b0),pk (Bf 9 3 part),po rp,pk (Gs 9 [49] (List.replicate part.length 48) (by simp;omega)),po ps,po mu,po ad,po re]
  ·have lo:=lo0 true
   have re:=r1;exact sr 81 [po hh,po (Ea hw),po pp,po sg,pk (EQ 3 z.sign 0 false hs),pk (Bf 9 3 part),pk (Af 3 ((part.length:Nat):Int) 0),pk (Bf 9 3 part),pl lo,po (Lz hpb),pk (Kq 9 (part.dropWhile (· == 48)) [] false (decide_eq_true hr) hrb b0),pk (Bf 9 3 part),po rp,pk (Gs 9 [49] (List.replicate part.length 48) (by simp;omega)),po ps,po mu,po ad,po ng,po re]
 ·have pr:=C8 (I:=I) hrb (GT (SO hp hr) (by omega)) (by omega)
  rw[QC] at pr;have ad:=PK (I:=I) (Bm lm (by omega)) (Bm lpt (by omega))
  rw[←eN] at ad;cases neg
  ·have lo:=lo0 false
   have re:=r0;exact sr 81 [po hh,po (Ea hw),po pp,po sg,pk (EQ 3 z.sign 0 false hs),pk (Bf 9 3 part),pk (Af 3 ((part.length:Nat):Int) 0),pk (Bf 9 3 part),pl lo,po (Lz hpb),pk (Kq 9 (part.dropWhile (· == 48)) [] true (decide_eq_false hr) hrb b0),po pr,pk (Bf 9 3 part),po rp,pk (Gs 9 [49] (List.replicate part.length 48) (by simp;omega)),po ps,po mu,po ad,po re]
  ·have lo:=lo0 true
   have re:=r1;exact sr 81 [po hh,po (Ea hw),po pp,po sg,pk (EQ 3 z.sign 0 false hs),pk (Bf 9 3 part),pk (Af 3 ((part.length:Nat):Int) 0),pk (Bf 9 3 part),pl lo,po (Lz hpb),pk (Kq 9 (part.dropWhile (· == 48)) [] true (decide_eq_false hr) hrb b0),po pr,pk (Bf 9 3 part),po rp,pk (Gs 9 [49] (List.replicate part.length 48) (by simp;omega)),po ps,po mu,po ad,po ng,po re]
theorem Qz {xs:List Nat}(h:400 < xs.length):Sp Tryz.prog I 49 [cS xs] (.tu [frz,ci 10]) :=
 sr 72 [pk (Bf 9 3 xs),pk (BN 3 ((xs.length:Nat):Int) 400)]
theorem J9 {xs:List Nat}{i:Nat}(hx:B8 xs)(hl:xs.length≤400)(hi:CU 47 xs=some i)(G:CP (BD (xs.take i)) (Bi (xs.take i)))(D:Hi (xs.drop (i+1)))(h48:xs.drop (i+1)≠[48]):Sp Tryz.prog Am 49 [cS xs] (.tu [frc (Rat.divInt (sgn (BD (xs.take i)) (nd (Bi (xs.take i)))) ((nd (xs.drop (i+1)):Nat):Int)),ci 0]):=by
 have cs:=MO (c:=47) (by omega) hx (by omega) hi
 have l1:(xs.take i).length≤400:=by rw[List.length_take];omega
 have l2:(xs.drop (i+1)).length≤400:=by rw[List.length_drop];omega
 have pn:=C8 (I:=Am) (hx.take i) (JB G l1) (by omega)
 have pdd:=C8 (I:=Am) (hx.drop (i+1)) (GT D l2) (by omega)
 have ln:Lim 84 (sgn (BD (xs.take i)) (nd (Bi (xs.take i)))):=(Dz G.1.2.1 (by have:=CQ (xs.take i);omega)).sgn _
 have ld:=Dz D.2.1 (by omega)
 have hp:=Xz D h48;generalize sgn (BD (xs.take i)) (nd (Bi (xs.take i)))=n at *;obtain ⟨d,hd⟩ : ∃ d:Int,((nd (xs.drop (i+1)):Nat):Int)=d:=⟨_,rfl⟩;have hd0:0 < d:=by omega
 rw[hd] at pdd ld ⊢;have sg:=BL (I:=Am) 1 (Bm ld (by omega)) (Int.sign_eq_one_of_pos hd0)
 have re:=En (I:=Am) (Bm ln (by omega)) (Bm ld (by omega)) (ln.mono (by omega)) (ld.mono (by omega)) (by omega)
 exact sr 72 [pk (Bf 9 3 xs),pk (Ao 3 ((xs.length:Nat):Int) 400),po cs,po pn,po pdd,po sg,po re]
theorem Qy {xs:List Nat}{i:Nat}(hx:B8 xs)(hl:xs.length≤400)(hi:CU 47 xs=some i)(h : ¬ (CP (BD (xs.take i)) (Bi (xs.take i))∧Hi (xs.drop (i+1))∧xs.drop (i+1)≠[48])):Sp Tryz.prog Am 49 [cS xs] (.tu [frz,ci 1]):=by
 have cs:=MO (c:=47) (by omega) hx (by omega) hi
 have l1:(xs.take i).length≤400:=by rw[List.length_take];omega
 have l2:(xs.drop (i+1)).length≤400:=by rw[List.length_drop];omega
 by_cases G:CP (BD (xs.take i)) (Bi (xs.take i))
 ·have pn:=C8 (I:=Am) (hx.take i) (JB G l1) (by omega)
  have le : ∀ d:Int,d≤0→d.sign≤0:=fun d hd=>by
   rcases Int.lt_or_eq_of_le hd with h1 | h1
   ·rw[Int.sign_eq_neg_one_of_neg h1];omega
   ·rw[h1];decide
  by_cases D:Hi (xs.drop (i+1))
  ·have e48:xs.drop (i+1)=[48]:=by
    by_cases h1:xs.drop (i+1)=[48]
    ·exact h1
    ·exact absurd ⟨G,D,h1⟩ h
   have pdd:=C8 (I:=Am) (hx.drop (i+1)) (GT D l2) (by omega)
   rw[show ((nd (xs.drop (i+1)):Nat):Int)=0 by rw[e48];rfl] at pdd
   have sg:=BL (I:=Am) 0 (Bm (F5 1) (by omega)) rfl
   exact sr 72 [pk (Bf 9 3 xs),pk (Ao 3 ((xs.length:Nat):Int) 400),po cs,po pn,po pdd,po sg]
  ·by_cases G2:CP (BD (xs.drop (i+1))) (Bi (xs.drop (i+1)))
   ·have pdd:=C8 (I:=Am) (hx.drop (i+1)) (JB G2 l2) (by omega)
    have ld:Lim 84 (sgn (BD (xs.drop (i+1))) (nd (Bi (xs.drop (i+1))))):=(Dz G2.1.2.1 (by have:=CQ (xs.drop (i+1));omega)).sgn _
    have hneg:=QZ G2 D;generalize sgn (BD (xs.drop (i+1))) (nd (Bi (xs.drop (i+1))))=d at *;have sg:=BL (I:=Am) (-1) (Bm ld (by omega)) (Int.sign_eq_neg_one_of_neg hneg)
    exact sr 72 [pk (Bf 9 3 xs),pk (Ao 3 ((xs.length:Nat):Int) 400),po cs,po pn,po pdd,po sg]
   ·have pdd:=C8 (I:=Am) (hx.drop (i+1)) (OV G2 l2) (by omega)
    exact sr 72 [pk (Bf 9 3 xs),pk (Ao 3 ((xs.length:Nat):Int) 400),po cs,po pn,po pdd]
 ·have pn:=C8 (I:=Am) (hx.take i) (OV G l1) (by omega)
  exact sr 72 [pk (Bf 9 3 xs),pk (Ao 3 ((xs.length:Nat):Int) 400),po cs,po pn]
theorem Mr {xs:List Nat}{j:Nat}{r:CT}{code:Int}(hx:B8 xs)(hl:xs.length≤400)(hi:CU 47 xs=none)(hj:CU 46 xs=some j)(hr:(∃ q:Rat,r=frc q)∨r=frz)(pdr:Sp Tryz.prog Am 103 [cS (xs.take j),cS (xs.drop (j+1))] (.tu [r,ci code])):Sp Tryz.prog Am 49 [cS xs] (.tu [r,ci code]):=by
 have c1:=GE (c:=47) (by omega) hx (by omega) hi
 have c2:=MO (c:=46) (by omega) hx (by omega) hj
 rcases hr with ⟨q,rfl⟩ | rfl
 ·exact sr 72 [pk (Bf 9 3 xs),pk (Ao 3 ((xs.length:Nat):Int) 400),po c1,po c2,po pdr]
 ·exact sr 72 [pk (Bf 9 3 xs),pk (Ao 3 ((xs.length:Nat):Int) 400),po c1,po c2,po pdr]
theorem Mq {xs:List Nat}(hx:B8 xs)(hl:xs.length≤400)(hi:CU 47 xs=none)(hj:CU 46 xs=none)(G:CP (BD xs) (Bi xs)):Sp Tryz.prog Am 49 [cS xs] (.tu [frc ((sgn (BD xs) (nd (Bi xs)):Int):Rat),ci 0]):=by
 have c1:=GE (c:=47) (by omega) hx (by omega) hi
 have c2:=GE (c:=46) (by omega) hx (by omega) hj
 have pn:=C8 (I:=Am) hx (JB G hl) (by omega)
 have ln:Lim 84 (sgn (BD xs) (nd (Bi xs))):=(Dz G.1.2.1 (by have:=CQ xs;omega)).sgn _
 generalize sgn (BD xs) (nd (Bi xs))=n at *;have fi:=S8 (I:=Am) (Bm ln (by omega))
 exact sr 72 [pk (Bf 9 3 xs),pk (Ao 3 ((xs.length:Nat):Int) 400),po c1,po c2,po pn,po fi]
theorem Q0 {xs:List Nat}(hx:B8 xs)(hl:xs.length≤400)(hi:CU 47 xs=none)(hj:CU 46 xs=none)(G : ¬ CP (BD xs) (Bi xs)):Sp Tryz.prog Am 49 [cS xs] (.tu [frz,ci 1]):=by
 have c1:=GE (c:=47) (by omega) hx (by omega) hi
 have c2:=GE (c:=46) (by omega) hx (by omega) hj
 have pn:=C8 (I:=Am) hx (OV G hl) (by omega)
 exact sr 72 [pk (Bf 9 3 xs),pk (Ao 3 ((xs.length:Nat):Int) 400),po c1,po c2,po pn]
end
section
variable {I:WInv}
theorem Sg (q:Rat)(hl:(BK q).length≤400):Sp Tryz.prog Am 49 [cS (BK q)] (.tu [frc q,ci 0]):=by
 have hx:=JN q;by_cases h:q.den=1
 ·obtain ⟨h1,h2⟩:=Oe q h
  have e:BK q=Ct q.num:=by unfold BK;rw[if_pos h]
  have hp:=Xs q.num (by rw[←e];exact hl)
  rw[←e] at hp;rcases hp with hp | hp | hp
  ·omega
  ·obtain ⟨_,G,_,hz⟩:=hp
   have:=Mq hx hl h1 h2 G;rw[←hz] at this;have e2:((q.num:Int):Rat)=q:=(Z7 q.num).symm.trans (by
    have:=BH q;rw[h] at this;exact this)
   rwa [e2] at this
  ·omega
 ·have hi:=MB q h
  have e:BK q=Ct q.num++([47]++Ct (q.den:Int)):=by unfold BK;rw[if_neg h]
  have et:(BK q).take (Ct q.num).length=Ct q.num:=by rw[e];exact List.take_left
  have ed:(BK q).drop ((Ct q.num).length+1)=dec q.den:=by
   rw[e,←List.drop_drop,List.drop_left,←Rh]
   rfl
  have hl2:=hl;rw[e,List.length_append] at hl2;have hp:=Xs q.num (by omega)
  rcases hp with hp | hp | hp
  ·omega
  ·obtain ⟨_,G,_,hz⟩:=hp
   have hd0:=Rr q;have:=J9 hx hl hi (by rw[et];exact G) (by rw[ed];exact MM q.den) (by
    rw[ed];intro h48;have h2:=H9 q.den;rw[h48] at h2;have h3:nd [48]=0:=rfl;omega)
   rw[et,ed,←hz,H9,BH] at this;exact this
  ·omega
end
abbrev rbx (xs:List Nat)(b:Bool):Ent:=⟨76,none,[.b (.it (bI xs)),.o b]⟩
def rst (xs:List Nat)(u e:Nat):List Nat:=if e=0 then xs.drop u else []
def bdd (bad:Bool)(e:Nat):Bool:=bad || !decide (e=0)
theorem Ab4 {xs:List Nat}(h:B8 xs)(u e:Nat):B8 (rst xs u e):=by unfold rst;split;exact h.drop u;exact fun x hx=>by cases hx
section
variable {I:WInv}{c:Bool}{k:Nat}
theorem RM (xs:List Nat)(bad:Bool)(u e:Nat)(h:e=0→u≤xs.length):SpM Tryz.prog I 97 [(0,some (rbx xs bad))] [.one (.ptr 0 0),ci (u:Int),ci (e:Int)] [(0,some (rbx (rst xs u e) (bdd bad e)))] (.tu []):=by
 unfold rst bdd;by_cases h0:e=0
 ·subst h0
  have hu:=h rfl;rw[if_pos rfl,show (bad || !decide (0=0))=bad by simp]
  exact sm 23 [pk (At 32 ((0:Nat):Int) 0),pk (AE xs u _ rfl hu)]
 ·rw[if_neg h0,show (bad || !decide (e=0))=true by simp[h0]]
  exact sm 23 [pk (AR 32 (e:Int) 0),⟨.upd [.b (.it (slI 1 ((xs).map (Aa)))),.o bad] 1 [.o true] [.b (.it (slI 1 ((xs).map (Aa)))),.o true],rfl⟩,⟨.upd [.b (.it (slI 1 ((xs).map (Aa)))),.o true] 0 [.z] [.z,.o true],rfl⟩,pm ((show Leads I _ ⟨[],[(0,some ⟨76,none,[.z,.o true]⟩)],13⟩ ⟨[],[(0,some (rbx [] true))],13⟩ from AN [] trivial ⟨rfl,rfl,rfl,ILe.cons H7 ILe.refl,trivial⟩))]
theorem Zz {xs:List Nat}(hx:B8 xs)(bad:Bool):SpM Tryz.prog I 47 [(0,some (rbx xs bad))] [.one (.ptr 0 0)] [(0,some (rbx (rst xs (AZ xs).2.1 (AZ xs).2.2) (bdd bad (AZ xs).2.2)))] (li ((AZ xs).1:Nat)):=by
 have hd:=Aco (I:=I) hx;have ht:=RM (I:=I) xs bad (AZ xs).2.1 (AZ xs).2.2 (fun h=>(DL xs h).2.2.1)
 generalize AZ xs=r at *;exact sm 20 [po (hd),pom [0] (ht)]
theorem Aar (xs:List Nat)(h:(Fl xs).2.2=0):(Fl xs).2.1≤xs.length:=by
 unfold Fl at h ⊢;split at h
 ·rename_i h1;rw[if_pos h1];exact (DL xs h1).2.2.1
 ·rename_i h1;exact absurd h h1
theorem Yx (xs:List Nat)(h:(CW xs).2.2=0):(CW xs).2.1≤xs.length:=by
 unfold CW at h ⊢;have:=DL xs;generalize AZ xs=r at *;obtain ⟨a,b,e⟩:=r;simp only at *;by_cases h1:e=0
 ·have h9:=this h1
  subst h1;by_cases h2:20000 < a
  ·simp[h2] at h
  ·by_cases h3:xs.length - b < a
   ·simp[h2,h3] at h
   ·simp[h2,h3];omega
 ·simp[h1] at h
theorem Xf {xs:List Nat}(hx:B8 xs)(bad:Bool):SpM Tryz.prog I 51 [(0,some (rbx xs bad))] [.one (.ptr 0 0)] [(0,some (rbx (rst xs (Fl xs).2.1 (Fl xs).2.2) (bdd bad (Fl xs).2.2)))] (li (Fl xs).1):=by
 have hd:=Acq (I:=I) hx;have ht:=RM (I:=I) xs bad (Fl xs).2.1 (Fl xs).2.2 (Aar xs);generalize Fl xs=r at *;exact sm 20 [po (hd),pom [0] (ht)]
theorem Tw {xs:List Nat}(hx:B8 xs)(bad:Bool):SpM Tryz.prog I 50 [(0,some (rbx xs bad))] [.one (.ptr 0 0)] [(0,some (rbx (rst xs (CW xs).2.1 (CW xs).2.2) (bdd bad (CW xs).2.2)))] (tS (CW xs).1):=by
 have hd:=Acp (I:=I) hx;have ht:=RM (I:=I) xs bad (CW xs).2.1 (CW xs).2.2 (Yx xs);generalize CW xs=r at *;exact sm 20 [po (hd),pom [0] (ht)]
theorem Dk (xs:List Nat)(bad b:Bool)(h:(!bad&&decide (xs.length=0))=b):SpM Tryz.prog I 52 [(0,some (rbx xs bad))] [.one (.ptr 0 0)] [(0,some (rbx xs bad))] (lb b):=by
 cases bad with
 | true =>
  subst h;exact sm 16 [pa]
 | false =>
  by_cases h0:xs.length=0
  ·rw[decide_eq_true h0] at h;subst h
   exact sm 16 [pa,pk (AK 31 5 3 1 ((xs).map (Aa)) ((xs).length:Int)),pk (Ak 3 ((xs).length:Int) 0)]
  ·rw[decide_eq_false h0] at h;subst h
   exact sm 16 [pa,pk (AK 31 5 3 1 ((xs).map (Aa)) ((xs).length:Int)),pk (Af 3 ((xs).length:Int) 0)]
theorem TZ {xs ys:List Nat}(b:Bool)(h:decide (xs=ys)=b)(hx:B8 xs)(hy:B8 ys):Sp Tryz.prog I 53 [.t (bI xs),.t (bI ys)] (lb b) :=
 sr 10 [pk (Gi xs),pk (Gi ys),pk (RN 9 xs ys b h hx hy)]
end
abbrev chZ:CT := .ag [.i 0,.i 0,.o false,.z,.o false,.z,.i 0,.i 0,.i 0]
theorem Aal {bs r1 r2:List Nat}{d1 d2:Bool}{k n:Int}(hU1:SpM Tryz.prog Am 47 [(0,some (rbx bs false))] [.one (.ptr 0 0)] [(0,some (rbx r1 d1))] (li k))(hU2:SpM Tryz.prog Am 47 [(0,some (rbx r1 d1))] [.one (.ptr 0 0)] [(0,some (rbx r2 d2))] (li n))(hF:Sp Tryz.prog Am 48 [ci 0,ci 1] (.tu [fc true 84 0,ci 0])){r3 s:List Nat}{d3:Bool}(hk:k=1)(hT:SpM Tryz.prog Am 50 [(0,some (rbx r2 d2))] [.one (.ptr 0 0)] [(0,some (rbx r3 d3))] (tS s)){e:Int}(he:e≠0)(hP:Sp Tryz.prog Am 49 [cS s] (.tu [frz,ci e])):Sp Tryz.prog Am 16 [.t (bI bs)] (.tu [chZ,ci 2]) :=
 sr 62 [pom [4] (hU1),pom [4] (hU2),po (hF),pk (Ak 3 k 1),pom [4] (hT),po (hP),pk (AR 32 e 0)]
theorem Yn {bs r1 r2:List Nat}{d1 d2:Bool}{k n:Int}(hU1:SpM Tryz.prog Am 47 [(0,some (rbx bs false))] [.one (.ptr 0 0)] [(0,some (rbx r1 d1))] (li k))(hU2:SpM Tryz.prog Am 47 [(0,some (rbx r1 d1))] [.one (.ptr 0 0)] [(0,some (rbx r2 d2))] (li n))(hF:Sp Tryz.prog Am 48 [ci 0,ci 1] (.tu [fc true 84 0,ci 0])){r3 s:List Nat}{d3:Bool}(hk:k=1)(hT:SpM Tryz.prog Am 50 [(0,some (rbx r2 d2))] [.one (.ptr 0 0)] [(0,some (rbx r3 d3))] (tS s)){q:Rat}(hP:Sp Tryz.prog Am 49 [cS s] (.tu [fc true 84 q,ci 0]))(hD:SpM Tryz.prog Am 52 [(0,some (rbx r3 d3))] [.one (.ptr 0 0)] [(0,some (rbx r3 d3))] (lb false)):Sp Tryz.prog Am 16 [.t (bI bs)] (.tu [chZ,ci 2]) :=
 sr 62 [pom [4] (hU1),pom [4] (hU2),po (hF),pk (Ak 3 k 1),pom [4] (hT),po (hP),pa,pom [4] (hD),pa]
theorem Ym {bs r1 r2:List Nat}{d1 d2:Bool}{k n:Int}(hU1:SpM Tryz.prog Am 47 [(0,some (rbx bs false))] [.one (.ptr 0 0)] [(0,some (rbx r1 d1))] (li k))(hU2:SpM Tryz.prog Am 47 [(0,some (rbx r1 d1))] [.one (.ptr 0 0)] [(0,some (rbx r2 d2))] (li n))(hF:Sp Tryz.prog Am 48 [ci 0,ci 1] (.tu [fc true 84 0,ci 0])){r3 s:List Nat}{d3:Bool}(hk:k=1)(hT:SpM Tryz.prog Am 50 [(0,some (rbx r2 d2))] [.one (.ptr 0 0)] [(0,some (rbx r3 d3))] (tS s)){q:Rat}(hP:Sp Tryz.prog Am 49 [cS s] (.tu [fc true 84 q,ci 0]))(hD:SpM Tryz.prog Am 52 [(0,some (rbx r3 d3))] [.one (.ptr 0 0)] [(0,some (rbx r3 d3))] (lb true)){c:List Nat}{e:Int}(he:e≠0)(hE:Sp Tryz.prog Am 13 [chK true 84 ⟨k,n,q,0,0,0⟩] (.tu [.t (bI c),ci e])):Sp Tryz.prog Am 16 [.t (bI bs)] (.tu [chZ,ci 2]) :=
 sr 62 [pom [4] (hU1),pom [4] (hU2),po (hF),pk (Ak 3 k 1),pom [4] (hT),po (hP),pa,pom [4] (hD),pa,po (hE),pk (AR 32 e 0)]
theorem Yl {bs r1 r2:List Nat}{d1 d2:Bool}{k n:Int}(hU1:SpM Tryz.prog Am 47 [(0,some (rbx bs false))] [.one (.ptr 0 0)] [(0,some (rbx r1 d1))] (li k))(hU2:SpM Tryz.prog Am 47 [(0,some (rbx r1 d1))] [.one (.ptr 0 0)] [(0,some (rbx r2 d2))] (li n))(hF:Sp Tryz.prog Am 48 [ci 0,ci 1] (.tu [fc true 84 0,ci 0])){r3 s:List Nat}{d3:Bool}(hk:k=1)(hT:SpM Tryz.prog Am 50 [(0,some (rbx r2 d2))] [.one (.ptr 0 0)] [(0,some (rbx r3 d3))] (tS s)){q:Rat}(hP:Sp Tryz.prog Am 49 [cS s] (.tu [fc true 84 q,ci 0]))(hD:SpM Tryz.prog Am 52 [(0,some (rbx r3 d3))] [.one (.ptr 0 0)] [(0,some (rbx r3 d3))] (lb true)){c:List Nat}(hE:Sp Tryz.prog Am 13 [chK true 84 ⟨k,n,q,0,0,0⟩] (.tu [.t (bI c),ci 0]))(hQ:Sp Tryz.prog Am 53 [.t (bI c),.t (bI bs)] (lb false)):Sp Tryz.prog Am 16 [.t (bI bs)] (.tu [chZ,ci 2]) :=
 sr 62 [pom [4] (hU1),pom [4] (hU2),po (hF),pk (Ak 3 k 1),pom [4] (hT),po (hP),pa,pom [4] (hD),pa,po (hE),pa,po (hQ),pa]
theorem Yk {bs r1 r2:List Nat}{d1 d2:Bool}{k n:Int}(hU1:SpM Tryz.prog Am 47 [(0,some (rbx bs false))] [.one (.ptr 0 0)] [(0,some (rbx r1 d1))] (li k))(hU2:SpM Tryz.prog Am 47 [(0,some (rbx r1 d1))] [.one (.ptr 0 0)] [(0,some (rbx r2 d2))] (li n))(hF:Sp Tryz.prog Am 48 [ci 0,ci 1] (.tu [fc true 84 0,ci 0])){r3 s:List Nat}{d3:Bool}(hk:k=1)(hT:SpM Tryz.prog Am 50 [(0,some (rbx r2 d2))] [.one (.ptr 0 0)] [(0,some (rbx r3 d3))] (tS s)){q:Rat}(hP:Sp Tryz.prog Am 49 [cS s] (.tu [fc true 84 q,ci 0]))(hD:SpM Tryz.prog Am 52 [(0,some (rbx r3 d3))] [.one (.ptr 0 0)] [(0,some (rbx r3 d3))] (lb true)){c:List Nat}(hE:Sp Tryz.prog Am 13 [chK true 84 ⟨k,n,q,0,0,0⟩] (.tu [.t (bI c),ci 0]))(hQ:Sp Tryz.prog Am 53 [.t (bI c),.t (bI bs)] (lb true)):Sp Tryz.prog Am 16 [.t (bI bs)] (.tu [chK true 84 ⟨k,n,q,0,0,0⟩,ci 0]) :=
 sr 62 [pom [4] (hU1),pom [4] (hU2),po (hF),pk (Ak 3 k 1),pom [4] (hT),po (hP),pa,pom [4] (hD),pa,po (hE),pa,po (hQ),pa]
theorem Yj {bs r1 r2:List Nat}{d1 d2:Bool}{k n:Int}(hU1:SpM Tryz.prog Am 47 [(0,some (rbx bs false))] [.one (.ptr 0 0)] [(0,some (rbx r1 d1))] (li k))(hU2:SpM Tryz.prog Am 47 [(0,some (rbx r1 d1))] [.one (.ptr 0 0)] [(0,some (rbx r2 d2))] (li n))(hF:Sp Tryz.prog Am 48 [ci 0,ci 1] (.tu [fc true 84 0,ci 0])){r3 r4:List Nat}{d3 d4:Bool}{a b:Int}(hk:k=2)(hU3:SpM Tryz.prog Am 47 [(0,some (rbx r2 d2))] [.one (.ptr 0 0)] [(0,some (rbx r3 d3))] (li a))(hU4:SpM Tryz.prog Am 47 [(0,some (rbx r3 d3))] [.one (.ptr 0 0)] [(0,some (rbx r4 d4))] (li b))(hD:SpM Tryz.prog Am 52 [(0,some (rbx r4 d4))] [.one (.ptr 0 0)] [(0,some (rbx r4 d4))] (lb false)):Sp Tryz.prog Am 16 [.t (bI bs)] (.tu [chZ,ci 2]) :=
 sr 62 [pom [4] (hU1),pom [4] (hU2),po (hF),pk (Af 3 k 1),pk (Ak 3 k 2),pom [4] (hU3),pom [4] (hU4),pom [4] (hD),pa]
theorem Yi {bs r1 r2:List Nat}{d1 d2:Bool}{k n:Int}(hU1:SpM Tryz.prog Am 47 [(0,some (rbx bs false))] [.one (.ptr 0 0)] [(0,some (rbx r1 d1))] (li k))(hU2:SpM Tryz.prog Am 47 [(0,some (rbx r1 d1))] [.one (.ptr 0 0)] [(0,some (rbx r2 d2))] (li n))(hF:Sp Tryz.prog Am 48 [ci 0,ci 1] (.tu [fc true 84 0,ci 0])){r3 r4:List Nat}{d3 d4:Bool}{a b:Int}(hk:k=2)(hU3:SpM Tryz.prog Am 47 [(0,some (rbx r2 d2))] [.one (.ptr 0 0)] [(0,some (rbx r3 d3))] (li a))(hU4:SpM Tryz.prog Am 47 [(0,some (rbx r3 d3))] [.one (.ptr 0 0)] [(0,some (rbx r4 d4))] (li b))(hD:SpM Tryz.prog Am 52 [(0,some (rbx r4 d4))] [.one (.ptr 0 0)] [(0,some (rbx r4 d4))] (lb true)){c:List Nat}{e:Int}(he:e≠0)(hE:Sp Tryz.prog Am 13 [chK true 84 ⟨k,n,0,a,b,0⟩] (.tu [.t (bI c),ci e])):Sp Tryz.prog Am 16 [.t (bI bs)] (.tu [chZ,ci 2]) :=
 sr 62 [pom [4] (hU1),pom [4] (hU2),po (hF),pk (Af 3 k 1),pk (Ak 3 k 2),pom [4] (hU3),pom [4] (hU4),pom [4] (hD),pa,po (hE),pk (AR 32 e 0)]
theorem Yh {bs r1 r2:List Nat}{d1 d2:Bool}{k n:Int}(hU1:SpM Tryz.prog Am 47 [(0,some (rbx bs false))] [.one (.ptr 0 0)] [(0,some (rbx r1 d1))] (li k))(hU2:SpM Tryz.prog Am 47 [(0,some (rbx r1 d1))] [.one (.ptr 0 0)] [(0,some (rbx r2 d2))] (li n))(hF:Sp Tryz.prog Am 48 [ci 0,ci 1] (.tu [fc true 84 0,ci 0])){r3 r4:List Nat}{d3 d4:Bool}{a b:Int}(hk:k=2)(hU3:SpM Tryz.prog Am 47 [(0,some (rbx r2 d2))] [.one (.ptr 0 0)] [(0,some (rbx r3 d3))] (li a))(hU4:SpM Tryz.prog Am 47 [(0,some (rbx r3 d3))] [.one (.ptr 0 0)] [(0,some (rbx r4 d4))] (li b))(hD:SpM Tryz.prog Am 52 [(0,some (rbx r4 d4))] [.one (.ptr 0 0)] [(0,some (rbx r4 d4))] (lb true)){c:List Nat}(hE:Sp Tryz.prog Am 13 [chK true 84 ⟨k,n,0,a,b,0⟩] (.tu [.t (bI c),ci 0]))(hQ:Sp Tryz.prog Am 53 [.t (bI c),.t (bI bs)] (lb false)):Sp Tryz.prog Am 16 [.t (bI bs)] (.tu [chZ,ci 2]) :=
 sr 62 [pom [4] (hU1),pom [4] (hU2),po (hF),pk (Af 3 k 1),pk (Ak 3 k 2),pom [4] (hU3),pom [4] (hU4),pom [4] (hD),pa,po (hE),pa,po (hQ),pa]
theorem Yg {bs r1 r2:List Nat}{d1 d2:Bool}{k n:Int}(hU1:SpM Tryz.prog Am 47 [(0,some (rbx bs false))] [.one (.ptr 0 0)] [(0,some (rbx r1 d1))] (li k))(hU2:SpM Tryz.prog Am 47 [(0,some (rbx r1 d1))] [.one (.ptr 0 0)] [(0,some (rbx r2 d2))] (li n))(hF:Sp Tryz.prog Am 48 [ci 0,ci 1] (.tu [fc true 84 0,ci 0])){r3 r4:List Nat}{d3 d4:Bool}{a b:Int}(hk:k=2)(hU3:SpM Tryz.prog Am 47 [(0,some (rbx r2 d2))] [.one (.ptr 0 0)] [(0,some (rbx r3 d3))] (li a))(hU4:SpM Tryz.prog Am 47 [(0,some (rbx r3 d3))] [.one (.ptr 0 0)] [(0,some (rbx r4 d4))] (li b))(hD:SpM Tryz.prog Am 52 [(0,some (rbx r4 d4))] [.one (.ptr 0 0)] [(0,some (rbx r4 d4))] (lb true)){c:List Nat}(hE:Sp Tryz.prog Am 13 [chK true 84 ⟨k,n,0,a,b,0⟩] (.tu [.t (bI c),ci 0]))(hQ:Sp Tryz.prog Am 53 [.t (bI c),.t (bI bs)] (lb true)):Sp Tryz.prog Am 16 [.t (bI bs)] (.tu [chK true 84 ⟨k,n,0,a,b,0⟩,ci 0]) :=
 sr 62 [pom [4] (hU1),pom [4] (hU2),po (hF),pk (Af 3 k 1),pk (Ak 3 k 2),pom [4] (hU3),pom [4] (hU4),pom [4] (hD),pa,po (hE),pa,po (hQ),pa]
theorem Yf {bs r1 r2:List Nat}{d1 d2:Bool}{k n:Int}(hU1:SpM Tryz.prog Am 47 [(0,some (rbx bs false))] [.one (.ptr 0 0)] [(0,some (rbx r1 d1))] (li k))(hU2:SpM Tryz.prog Am 47 [(0,some (rbx r1 d1))] [.one (.ptr 0 0)] [(0,some (rbx r2 d2))] (li n))(hF:Sp Tryz.prog Am 48 [ci 0,ci 1] (.tu [fc true 84 0,ci 0])){r3:List Nat}{d3:Bool}{z:Int}(hk:k=3)(hI:SpM Tryz.prog Am 51 [(0,some (rbx r2 d2))] [.one (.ptr 0 0)] [(0,some (rbx r3 d3))] (li z))(hD:SpM Tryz.prog Am 52 [(0,some (rbx r3 d3))] [.one (.ptr 0 0)] [(0,some (rbx r3 d3))] (lb false)):Sp Tryz.prog Am 16 [.t (bI bs)] (.tu [chZ,ci 2]) :=
 sr 62 [pom [4] (hU1),pom [4] (hU2),po (hF),pk (Af 3 k 1),pk (Af 3 k 2),pk (Ak 3 k 3),pom [4] (hI),pom [4] (hD),pa]
theorem Ye {bs r1 r2:List Nat}{d1 d2:Bool}{k n:Int}(hU1:SpM Tryz.prog Am 47 [(0,some (rbx bs false))] [.one (.ptr 0 0)] [(0,some (rbx r1 d1))] (li k))(hU2:SpM Tryz.prog Am 47 [(0,some (rbx r1 d1))] [.one (.ptr 0 0)] [(0,some (rbx r2 d2))] (li n))(hF:Sp Tryz.prog Am 48 [ci 0,ci 1] (.tu [fc true 84 0,ci 0])){r3:List Nat}{d3:Bool}{z:Int}(hk:k=3)(hI:SpM Tryz.prog Am 51 [(0,some (rbx r2 d2))] [.one (.ptr 0 0)] [(0,some (rbx r3 d3))] (li z))(hD:SpM Tryz.prog Am 52 [(0,some (rbx r3 d3))] [.one (.ptr 0 0)] [(0,some (rbx r3 d3))] (lb true)){c:List Nat}{e:Int}(he:e≠0)(hE:Sp Tryz.prog Am 13 [chK true 84 ⟨k,n,0,0,0,z⟩] (.tu [.t (bI c),ci e])):Sp Tryz.prog Am 16 [.t (bI bs)] (.tu [chZ,ci 2]) :=
 sr 62 [pom [4] (hU1),pom [4] (hU2),po (hF),pk (Af 3 k 1),pk (Af 3 k 2),pk (Ak 3 k 3),pom [4] (hI),pom [4] (hD),pa,po (hE),pk (AR 32 e 0)]
theorem Yd {bs r1 r2:List Nat}{d1 d2:Bool}{k n:Int}(hU1:SpM Tryz.prog Am 47 [(0,some (rbx bs false))] [.one (.ptr 0 0)] [(0,some (rbx r1 d1))] (li k))(hU2:SpM Tryz.prog Am 47 [(0,some (rbx r1 d1))] [.one (.ptr 0 0)] [(0,some (rbx r2 d2))] (li n))(hF:Sp Tryz.prog Am 48 [ci 0,ci 1] (.tu [fc true 84 0,ci 0])){r3:List Nat}{d3:Bool}{z:Int}(hk:k=3)(hI:SpM Tryz.prog Am 51 [(0,some (rbx r2 d2))] [.one (.ptr 0 0)] [(0,some (rbx r3 d3))] (li z))(hD:SpM Tryz.prog Am 52 [(0,some (rbx r3 d3))] [.one (.ptr 0 0)] [(0,some (rbx r3 d3))] (lb true)){c:List Nat}(hE:Sp Tryz.prog Am 13 [chK true 84 ⟨k,n,0,0,0,z⟩] (.tu [.t (bI c),ci 0]))(hQ:Sp Tryz.prog Am 53 [.t (bI c),.t (bI bs)] (lb false)):Sp Tryz.prog Am 16 [.t (bI bs)] (.tu [chZ,ci 2]) :=
 sr 62 [pom [4] (hU1),pom [4] (hU2),po (hF),pk (Af 3 k 1),pk (Af 3 k 2),pk (Ak 3 k 3),pom [4] (hI),pom [4] (hD),pa,po (hE),pa,po (hQ),pa]
theorem Yc {bs r1 r2:List Nat}{d1 d2:Bool}{k n:Int}(hU1:SpM Tryz.prog Am 47 [(0,some (rbx bs false))] [.one (.ptr 0 0)] [(0,some (rbx r1 d1))] (li k))(hU2:SpM Tryz.prog Am 47 [(0,some (rbx r1 d1))] [.one (.ptr 0 0)] [(0,some (rbx r2 d2))] (li n))(hF:Sp Tryz.prog Am 48 [ci 0,ci 1] (.tu [fc true 84 0,ci 0])){r3:List Nat}{d3:Bool}{z:Int}(hk:k=3)(hI:SpM Tryz.prog Am 51 [(0,some (rbx r2 d2))] [.one (.ptr 0 0)] [(0,some (rbx r3 d3))] (li z))(hD:SpM Tryz.prog Am 52 [(0,some (rbx r3 d3))] [.one (.ptr 0 0)] [(0,some (rbx r3 d3))] (lb true)){c:List Nat}(hE:Sp Tryz.prog Am 13 [chK true 84 ⟨k,n,0,0,0,z⟩] (.tu [.t (bI c),ci 0]))(hQ:Sp Tryz.prog Am 53 [.t (bI c),.t (bI bs)] (lb true)):Sp Tryz.prog Am 16 [.t (bI bs)] (.tu [chK true 84 ⟨k,n,0,0,0,z⟩,ci 0]) :=
 sr 62 [pom [4] (hU1),pom [4] (hU2),po (hF),pk (Af 3 k 1),pk (Af 3 k 2),pk (Ak 3 k 3),pom [4] (hI),pom [4] (hD),pa,po (hE),pa,po (hQ),pa]
theorem Yq {bs r1 r2:List Nat}{d1 d2:Bool}{k n:Int}(hU1:SpM Tryz.prog Am 47 [(0,some (rbx bs false))] [.one (.ptr 0 0)] [(0,some (rbx r1 d1))] (li k))(hU2:SpM Tryz.prog Am 47 [(0,some (rbx r1 d1))] [.one (.ptr 0 0)] [(0,some (rbx r2 d2))] (li n))(hF:Sp Tryz.prog Am 48 [ci 0,ci 1] (.tu [fc true 84 0,ci 0]))(h1:k≠1)(h2:k≠2)(h3:k≠3)(hD:SpM Tryz.prog Am 52 [(0,some (rbx r2 d2))] [.one (.ptr 0 0)] [(0,some (rbx r2 d2))] (lb false)):Sp Tryz.prog Am 16 [.t (bI bs)] (.tu [chZ,ci 2]) :=
 sr 62 [pom [4] (hU1),pom [4] (hU2),po (hF),pk (Af 3 k 1),pk (Af 3 k 2),pk (Af 3 k 3),pom [4] (hD),pa]
theorem Yp {bs r1 r2:List Nat}{d1 d2:Bool}{k n:Int}(hU1:SpM Tryz.prog Am 47 [(0,some (rbx bs false))] [.one (.ptr 0 0)] [(0,some (rbx r1 d1))] (li k))(hU2:SpM Tryz.prog Am 47 [(0,some (rbx r1 d1))] [.one (.ptr 0 0)] [(0,some (rbx r2 d2))] (li n))(hF:Sp Tryz.prog Am 48 [ci 0,ci 1] (.tu [fc true 84 0,ci 0]))(h1:k≠1)(h2:k≠2)(h3:k≠3)(hD:SpM Tryz.prog Am 52 [(0,some (rbx r2 d2))] [.one (.ptr 0 0)] [(0,some (rbx r2 d2))] (lb true)){c:List Nat}{e:Int}(he:e≠0)(hE:Sp Tryz.prog Am 13 [chK true 84 ⟨k,n,0,0,0,0⟩] (.tu [.t (bI c),ci e])):Sp Tryz.prog Am 16 [.t (bI bs)] (.tu [chZ,ci 2]) :=
 sr 62 [pom [4] (hU1),pom [4] (hU2),po (hF),pk (Af 3 k 1),pk (Af 3 k 2),pk (Af 3 k 3),pom [4] (hD),pa,po (hE),pk (AR 32 e 0)]
theorem Yo {bs r1 r2:List Nat}{d1 d2:Bool}{k n:Int}(hU1:SpM Tryz.prog Am 47 [(0,some (rbx bs false))] [.one (.ptr 0 0)] [(0,some (rbx r1 d1))] (li k))(hU2:SpM Tryz.prog Am 47 [(0,some (rbx r1 d1))] [.one (.ptr 0 0)] [(0,some (rbx r2 d2))] (li n))(hF:Sp Tryz.prog Am 48 [ci 0,ci 1] (.tu [fc true 84 0,ci 0]))(h1:k≠1)(h2:k≠2)(h3:k≠3)(hD:SpM Tryz.prog Am 52 [(0,some (rbx r2 d2))] [.one (.ptr 0 0)] [(0,some (rbx r2 d2))] (lb true)){c:List Nat}(hE:Sp Tryz.prog Am 13 [chK true 84 ⟨k,n,0,0,0,0⟩] (.tu [.t (bI c),ci 0]))(hQ:Sp Tryz.prog Am 53 [.t (bI c),.t (bI bs)] (lb false)):Sp Tryz.prog Am 16 [.t (bI bs)] (.tu [chZ,ci 2]) :=
 sr 62 [pom [4] (hU1),pom [4] (hU2),po (hF),pk (Af 3 k 1),pk (Af 3 k 2),pk (Af 3 k 3),pom [4] (hD),pa,po (hE),pa,po (hQ),pa]
theorem MC {z:Int}(h:(Ct z).length≤800):Lim 84 z:=by
 have h1:(dec z.natAbs).length≤800:=by
  unfold Ct Dl at h;rw[List.length_append] at h;omega
 have h2:=Dz (MM z.natAbs).2.1 h1;rw[H9] at h2;unfold Lim at h2 ⊢
 simpa using h2
theorem TU {q:Rat}(h:(BK q).length≤400):Lq q 84:=by
 unfold BK at h;split at h
 ·rename_i h1
  exact ⟨MC (by omega),by rw[h1];exact Ee (by omega),by omega⟩
 ·simp only[List.length_append] at h
  exact ⟨MC (by omega),MC (by omega),by omega⟩
theorem Rg {q:Rat}{e:Int}(h:Lq q 84){f:FuncId}{args:List CT}{I:WInv}(hs:Sp Tryz.prog I f args (.tu [frc q,ci e])):Sp Tryz.prog I f args (.tu [fc true 84 q,ci e]):=hs.rs (KS ⟨KF h,CTle.refl,trivial⟩)
theorem Sh {xs:List Nat}(hx:B8 xs):(∃ q:Rat,Sp Tryz.prog Am 49 [cS xs] (.tu [fc true 84 q,ci 0]))∨(∃ e:Int,e≠0∧Sp Tryz.prog Am 49 [cS xs] (.tu [frz,ci e])):=by
 by_cases hl:xs.length≤400
 ·cases hi:CU 47 xs with
  | some i =>
   by_cases h:CP (BD (xs.take i)) (Bi (xs.take i))∧Hi (xs.drop (i+1))∧xs.drop (i+1)≠[48]
   ·have l1:(xs.take i).length≤400:=by rw[List.length_take];omega
    have l2:(xs.drop (i+1)).length≤400:=by rw[List.length_drop];omega
    have l3:=CQ (xs.take i);exact .inl ⟨_,Rg ⟨EZ ((Dz h.1.1.2.1 (by omega)).sgn _),FW (Dz h.2.1.2.1 (by omega)) (by omega),by omega⟩ (J9 hx hl hi h.1 h.2.1 h.2.2)⟩
   ·exact .inr ⟨1,by omega,Qy hx hl hi h⟩
  | none =>
   cases hj:CU 46 xs with
   | some j =>
    have hlt:=(GX hj).1;have l1:(xs.take j).length=j:=by rw[List.length_take];omega
    have l2:(xs.drop (j+1)).length=xs.length - (j+1):=List.length_drop;have l3:=CQ (xs.take j);by_cases h:Hi (Bi (xs.take j))∧xs.drop (j+1)≠[]∧okD (xs.drop (j+1))
    ·exact .inl ⟨_,Rg ⟨EZ ((Dz (h.1.2.1.app h.2.2) (by rw[List.length_append];omega)).sgn _),FW (Tj (by omega)) (by omega),by omega⟩ (Mr hx hl hi hj (.inl ⟨_,rfl⟩) (Z9 (hx.take j) (by omega) h.1 h.2.1 h.2.2))⟩
    ·exact .inr ⟨1,by omega,Mr hx hl hi hj (.inr rfl) (AbH (hx.take j) (hx.drop (j+1)) (by omega) (by omega) h)⟩
   | none =>
    have l3:=CQ xs;by_cases h:CP (BD xs) (Bi xs)
    ·exact .inl ⟨_,Rg (Lq.int ((Dz h.1.2.1 (by omega)).sgn _) (by omega)) (Mq hx hl hi hj h)⟩
    ·exact .inr ⟨1,by omega,Q0 hx hl hi hj h⟩
 ·exact .inr ⟨10,by omega,Qz (by omega)⟩
theorem Bz:Sp Tryz.prog Am 48 [ci 0,ci 1] (.tu [fc true 84 0,ci 0]):=by
 have:=Rc (I:=Am) (a:=0) (b:=1) ⟨by omega,by omega⟩ ⟨by omega,by omega⟩ (by omega)
 rw[show Rat.divInt 0 1=0 by rfl] at this
 exact Rg ⟨F5 84,Ee (by omega),by omega⟩ this
def rU (xs:List Nat):List Nat:=rst xs (AZ xs).2.1 (AZ xs).2.2
def eU (xs:List Nat):Nat:=(AZ xs).2.2
theorem G1 {n:Nat}{r:List Nat}(h:n≤4611686018427387904):(AZ (Ac n++r)).1=n∧eU (Ac n++r)=0∧rU (Ac n++r)=r:=by
 unfold eU rU;rw[Dd n r h];exact ⟨rfl,rfl,by simp[rst]⟩
theorem La {xs:List Nat}(h:B8 xs):B8 (rU xs):=Ab4 h _ _
theorem Qw {q:Rat}(h:q.num.sign=0):q=0:=by
 have h1:q.num=0:=Int.sign_eq_zero_iff_zero.1 h;have:=BH q;rw[h1,Rat.zero_divInt] at this;exact this.symm
theorem GW {x:Ch}{b:List Nat}(h:Bb x=(b,0)) : ∃ n:Nat,n≤1099511627776∧x.node=(n:Int)∧((x=⟨1,n,x.q,0,0,0⟩∧(BK x.q).length≤400∧b=Ac 1++(Ac n++(Ac (BK x.q).length++BK x.q)))∨(∃ a c:Nat,a≤1099511627776∧c≤1099511627776∧x=⟨2,n,0,a,c,0⟩∧b=Ac 2++(Ac n++(Ac a++Ac c)))∨(x=⟨3,n,0,0,0,x.cost⟩∧BS x.cost=true∧b=Ac 3++(Ac n++Ac (zig x.cost)))):=by
 unfold Bb at h;split at h
 ·cases h
 ·rename_i hw
  simp only[Bool.not_eq_false] at hw;split at h
  ·cases h
  ·rename_i hl
   injection h with h;obtain ⟨n,hn,e1,hc⟩:=LJ hw;obtain ⟨kind,node,q,fst,nxt,cost⟩:=x;simp only at *;subst e1;refine ⟨n,hn,rfl,?_⟩;rcases hc with ⟨rfl,rfl,rfl,rfl⟩ | ⟨rfl,hs,rfl,a,c,ha,hc,rfl,rfl⟩ | ⟨rfl,hs,rfl,rfl,rfl,hz⟩
   ·exact .inl ⟨rfl,by omega,by rw[←h];simp[NW]⟩
   ·rw[Qw hs] at h ⊢
    exact .inr (.inl ⟨a,c,ha,hc,rfl,by rw[←h];simp[NW]⟩)
   ·rw[Qw hs] at h ⊢
    exact .inr (.inr ⟨rfl,hz,by rw[←h];simp[NW]⟩)
theorem DK {n:Nat}(h:n≤4611686018427387904):B8 (Ac n):=MJ h
theorem Ef (x:Ch):B8 (Bb x).1:=by
 by_cases h:(Bb x).2=0
 ·have e:Bb x=((Bb x).1,0):=by rw[←h]
  obtain ⟨n,hn,e1,h1 | ⟨a,c,ha,hc,e2,h2⟩ | ⟨e2,hz,h2⟩⟩:=GW e
  ·rw[h1.2.2];exact (DK (by omega)).app ((DK (by omega)).app ((DK (by omega)).app (JN _)))
  ·rw[h2];exact (DK (by omega)).app ((DK (by omega)).app ((DK (by omega)).app (DK (by omega))))
  ·rw[h2]
   have hc:=Df hz;exact (DK (by omega)).app ((DK (by omega)).app (DK (Km _ (by omega) (by omega))))
 ·intro y hy
  exfalso;unfold Bb at h hy;split at h
  ·rename_i h1;rw[if_pos h1] at hy;cases hy
  ·split at h
   ·rename_i h1 h2;rw[if_neg h1,if_pos h2] at hy;cases hy
   ·exact h rfl
theorem EF (x:Ch):(Bb x).1.length≤500:=by
 by_cases h:(Bb x).2=0
 ·have e:Bb x=((Bb x).1,0):=by rw[←h]
  have l1:=AJ (n:=1) (by omega)
  have l2:=AJ (n:=2) (by omega)
  have l3:=AJ (n:=3) (by omega)
  obtain ⟨n,hn,e1,h1 | ⟨a,c,ha,hc,e2,h2⟩ | ⟨e2,hz,h2⟩⟩:=GW e
  ·have l4:=AJ (n:=n) (by omega)
   have l5:=AJ (n:=(BK x.q).length) (by omega)
   rw[h1.2.2];simp only[List.length_append];omega
  ·have l4:=AJ (n:=n) (by omega)
   have l5:=AJ (n:=a) (by omega)
   have l6:=AJ (n:=c) (by omega)
   rw[h2];simp only[List.length_append];omega
  ·have hc:=Df hz
   have l4:=AJ (n:=n) (by omega)
   have l5:=AJ (Km x.cost (by omega) (by omega))
   rw[h2];simp only[List.length_append];omega
 ·unfold Bb at h ⊢
  split
  ·simp
  ·split
   ·simp
   ·rename_i h1 h2;rw[if_neg h1,if_neg h2] at h;exact absurd rfl h
theorem Abc (x:Ch):Sp Tryz.prog Am 13 [chK true 84 x] (.tu [.t (bI (Bb x).1),ci (Bb x).2]):=(SF x (by omega)).inv OF
theorem Qm {xs:List Nat}(hx:B8 xs)(bad:Bool):SpM Tryz.prog Am 47 [(0,some (rbx xs bad))] [.one (.ptr 0 0)] [(0,some (rbx (rU xs) (bdd bad (eU xs))))] (li ((AZ xs).1:Nat)):=Zz hx bad
theorem Vy {y:Ch}{b:List Nat}(hy:Bb y=(b,0)):Sp Tryz.prog Am 16 [.t (bI b)] (.tu [chK true 84 y,ci 0]):=by
 have hb:B8 b:=by have:=Ef y;rwa [hy] at this
 have hE:=Abc y;rw[hy] at hE;have hQ:=TZ (I:=Am) (xs:=b) (ys:=b) true (decide_eq_true rfl) hb hb;have hU1:=Qm hb false;have hU2:=Qm (La hb) (bdd false (eU b));have b2:=La (La hb);obtain ⟨n,hn,e1,⟨ey,hl,h1⟩ | ⟨a,c,ha,hc,ey,h1⟩ | ⟨ey,hz,h1⟩⟩:=GW hy
 ·obtain ⟨f1,f2,f3⟩:=G1 (n:=1) (r:=Ac n++(Ac (BK y.q).length++BK y.q)) (by omega)
  obtain ⟨g1,g2,g3⟩:=G1 (n:=n) (r:=Ac (BK y.q).length++BK y.q) (by omega)
  rw[←h1] at f1 f2 f3;rw[f1,f2,f3] at hU1;rw[f2,f3,g1,g2,g3] at hU2;rw[f3,g3] at b2;have hT:=Tw (I:=Am) b2 (bdd (bdd false 0) 0);have hd:=Yy (BK y.q) [] (by omega)
  rw[List.append_nil] at hd;rw[hd] at hT;have er:rst (Ac (BK y.q).length++BK y.q) (Ac (BK y.q).length++BK y.q).length 0=[]:=by unfold rst;rw[if_pos rfl];exact List.drop_eq_nil_of_le (Nat.le_refl _)
  have hT:SpM Tryz.prog Am _ _ _ [(0,some (rbx (rst (Ac (BK y.q).length++BK y.q) (Ac (BK y.q).length++BK y.q).length 0) (bdd (bdd (bdd false 0) 0) 0)))] _:=hT;rw[er] at hT;rw[ey] at hE ⊢;exact Yk hU1 hU2 Bz rfl hT (Rg (TU hl) (Sg y.q hl)) (Dk [] _ true rfl) hE hQ
 ·obtain ⟨f1,f2,f3⟩:=G1 (n:=2) (r:=Ac n++(Ac a++Ac c)) (by omega)
  obtain ⟨g1,g2,g3⟩:=G1 (n:=n) (r:=Ac a++Ac c) (by omega)
  obtain ⟨k1,k2,k3⟩:=G1 (n:=a) (r:=Ac c) (by omega)
  obtain ⟨l1,l2,l3⟩:=G1 (n:=c) (r:=[]) (by omega)
  rw[List.append_nil] at l1 l2 l3;rw[←h1] at f1 f2 f3;rw[f1,f2,f3] at hU1;rw[f2,f3,g1,g2,g3] at hU2;rw[f3,g3] at b2;have hU3:=Qm b2 (bdd (bdd false 0) 0);have hU4:=Qm (La b2) (bdd (bdd (bdd false 0) 0) (eU (Ac a++Ac c)));rw[k1,k2,k3] at hU3;rw[k2,k3,l1,l2,l3] at hU4;rw[ey] at hE ⊢;exact Yg hU1 hU2 Bz rfl hU3 hU4 (Dk [] _ true rfl) hE hQ
 ·have hc:=Df hz
  obtain ⟨f1,f2,f3⟩:=G1 (n:=3) (r:=Ac n++Ac (zig y.cost)) (by omega)
  obtain ⟨g1,g2,g3⟩:=G1 (n:=n) (r:=Ac (zig y.cost)) (by omega)
  rw[←h1] at f1 f2 f3;rw[f1,f2,f3] at hU1;rw[f2,f3,g1,g2,g3] at hU2;rw[f3,g3] at b2;have hI:=Xf (I:=Am) b2 (bdd (bdd false 0) 0);have hd:=Yz y.cost [] (by omega) (by omega)
  rw[List.append_nil] at hd;rw[hd] at hI;have er:rst (Ac (zig y.cost)) (Ac (zig y.cost)).length 0=[]:=by unfold rst;rw[if_pos rfl];exact List.drop_eq_nil_of_le (Nat.le_refl _)
  have hI:SpM Tryz.prog Am _ _ _ [(0,some (rbx (rst (Ac (zig y.cost)) (Ac (zig y.cost)).length 0) (bdd (bdd (bdd false 0) 0) 0)))] _:=hI;rw[er] at hI;rw[ey] at hE ⊢;exact Yc hU1 hU2 Bz rfl hI (Dk [] _ true rfl) hE hQ
theorem JI {b : List Nat} (hb : B8 b) (hno : ∀ y, Bb y ≠ (b, 0)) : Sp Tryz.prog Am 16 [.t (bI b)] (.tu [chZ, ci 2]) := by
 have ends : ∀ x:Ch,(∃ e:Int,e≠0 ∧ ∃ c,Sp Tryz.prog Am 13 [chK true 84 x] (.tu [.t (bI c),ci e]))∨(∃ c,Sp Tryz.prog Am 13 [chK true 84 x] (.tu [.t (bI c),ci 0])∧Sp Tryz.prog Am 53 [.t (bI c),.t (bI b)] (lb false)):=by
  intro x;have hE:=Abc x;by_cases h:(Bb x).2=0
  ·rw[h] at hE
   exact .inr ⟨_,hE,TZ false (decide_eq_false fun h2=>hno x (by rw[←h2,←h])) (Ef x) hb⟩
  ·exact .inl ⟨_,h,_,hE⟩
 have hU1:=Qm hb false;have hU2:=Qm (La hb) (bdd false (eU b));have b2:=La (La hb);generalize rU (rU b)=r2 at *;generalize bdd (bdd false (eU b)) (eU (rU b))=d2 at *;by_cases k1:((AZ b).1:Int)=1
 ·have hT:=Tw (I:=Am) b2 d2
  have hs:B8 (CW r2).1:=by
   unfold CW;split
   ·exact fun x hx=>by cases hx
   ·split
    ·exact fun x hx=>by cases hx
    ·split
     ·exact fun x hx=>by cases hx
     ·exact (b2.drop _).take _
  rcases Sh hs with ⟨q,hP⟩ | ⟨e,he,hP⟩
  ·cases hd:(!(bdd d2 (CW r2).2.2)&&decide ((rst r2 (CW r2).2.1 (CW r2).2.2).length=0)) with
   | false=>exact Yn hU1 hU2 Bz k1 hT hP (Dk _ _ false hd)
   | true =>
    rcases ends ⟨((AZ b).1:Nat),((AZ (rU b)).1:Nat),q,0,0,0⟩ with ⟨e,he,c,hE⟩ | ⟨c,hE,hQ⟩
    ·exact Ym hU1 hU2 Bz k1 hT hP (Dk _ _ true hd) he hE
    ·exact Yl hU1 hU2 Bz k1 hT hP (Dk _ _ true hd) hE hQ
  ·exact Aal hU1 hU2 Bz k1 hT he hP
 ·by_cases k2:((AZ b).1:Int)=2
  ·have hU3:=Qm b2 d2
   have hU4:=Qm (La b2) (bdd d2 (eU r2));cases hd:(!(bdd (bdd d2 (eU r2)) (eU (rU r2)))&&decide ((rU (rU r2)).length=0)) with
   | false=>exact Yj hU1 hU2 Bz k2 hU3 hU4 (Dk _ _ false hd)
   | true =>
    rcases ends ⟨((AZ b).1:Nat),((AZ (rU b)).1:Nat),0,((AZ r2).1:Nat),((AZ (rU r2)).1:Nat),0⟩ with ⟨e,he,c,hE⟩ | ⟨c,hE,hQ⟩
    ·exact Yi hU1 hU2 Bz k2 hU3 hU4 (Dk _ _ true hd) he hE
    ·exact Yh hU1 hU2 Bz k2 hU3 hU4 (Dk _ _ true hd) hE hQ
  ·by_cases k3:((AZ b).1:Int)=3
   ·have hI:=Xf (I:=Am) b2 d2
    cases hd:(!(bdd d2 (Fl r2).2.2)&&decide ((rst r2 (Fl r2).2.1 (Fl r2).2.2).length=0)) with
    | false=>exact Yf hU1 hU2 Bz k3 hI (Dk _ _ false hd)
    | true =>
     rcases ends ⟨((AZ b).1:Nat),((AZ (rU b)).1:Nat),0,0,0,(Fl r2).1⟩ with ⟨e,he,c,hE⟩ | ⟨c,hE,hQ⟩
     ·exact Ye hU1 hU2 Bz k3 hI (Dk _ _ true hd) he hE
     ·exact Yd hU1 hU2 Bz k3 hI (Dk _ _ true hd) hE hQ
   ·cases hd:(!d2&&decide (r2.length=0)) with
    | false=>exact Yq hU1 hU2 Bz k1 k2 k3 (Dk _ _ false hd)
    | true =>
     rcases ends ⟨((AZ b).1:Nat),((AZ (rU b)).1:Nat),0,0,0,0⟩ with ⟨e,he,c,hE⟩ | ⟨c,hE,hQ⟩
     ·exact Yp hU1 hU2 Bz k1 k2 k3 (Dk _ _ true hd) he hE
     ·exact Yo hU1 hU2 Bz k1 k2 k3 (Dk _ _ true hd) hE hQ
set_option maxRecDepth 100000 in
theorem Fp (n:Nat)(w:World)(hn:n≤4611686018427387904) :
  Calls Tryz.prog 43 #[.int .i64 n] w (Nc .u8 5 w (Ac n)):=by
 go_enter Tryz.func43,Tryz.ntmps43
 go_wp2
 go_loopw [0,3] (fun m v wr => ∃ (k:Nat) (xs:List Nat),m = .int .i64 k∧k≤n∧Hid (xs++Ac k=Ac n)∧Own .u8 5 w wr v xs) (fun m _ _=>(intOf m).toNat)
 case atStart=>exact ⟨n,[],rfl,Nat.le_refl _,rfl,Own.nil (Below.refl _ _)⟩
 case round =>
  obtain ⟨k,xs,rfl,hk,HE,hown⟩:=hrel;have hl:xs.length < 9:=by
   have h9:=AJ hn;rw[←HE.out,List.length_append] at h9;have:=F8 k;omega
  by_cases hlt:128≤k
  ·have ha:=Ac5 k (by omega)
   have hu:IntKind.u8.wrap ((k % 128:Nat):Int)=((k % 128:Nat):Int):=by rw[IntKind.wrap_u8];omega
   have ho:=AbJ (k % 128) (by omega)
   go_wp2_with (at_builtin;go_must (refine Aw Tryz.elemU8w Tryz.underlying31 (hown.alloc _) (Rd.one .u8 _ 5 (y:=k % 128+128) ?_) rfl rfl rfl rfl (by omega) (by omega) ?_))
   case refine_1=>first | exact ho | (have ho':=ho;simp at ho';simp[ho'])
   case refine_2 =>
    intro v' w' hown' _ _;clear hown;go_wp2
    go_roundw
    case rel=>exact ⟨k / 128,_,by go_num,by omega,by rw[←HE.out,Gc (n:=k) (by omega),List.append_assoc];rfl,hown'⟩
    case measure=>simp[intOf];omega
  ·go_wp2_with (at_builtin;go_must (refine Aw Tryz.elemU8w Tryz.underlying31 (hown.alloc _) (Rd.one .u8 _ 5 (y:=k) rfl) rfl rfl rfl rfl (by omega) (by omega) ?_;intro v' w' hown' _ _;clear hown))
   go_ret
   exact ⟨v',rfl,by rw[←HE.out,CF (by omega)];exact hown'⟩
theorem Qj (z:Int)(w:World)(h1 : -2305843009213693952≤z)(h2:z≤2305843009213693952) :
  Calls Tryz.prog 46 #[.int .i64 z] w (Nc .u8 5 w (Ac (zig z))):=by
 by_cases hs:0≤z
 ·obtain ⟨m,rfl⟩:=Int.eq_ofNat_of_zero_le hs
  have hz:zig (m:Int)=2*m:=by unfold zig;rw[if_pos hs];omega
  rw[hz];clear hz;go_enter Tryz.func46,Tryz.ntmps46
  go_wp2_with (go_at_call 43;go_must (refine (Fp (2*m) _ (by omega)).mono ?_;rintro e w' ⟨v,rfl,hown⟩))
  go_ret
  exact ⟨v,rfl,hown⟩
 ·obtain ⟨m,hm⟩ : ∃ m:Nat,(-2*z - 1)=m:=⟨(-2*z - 1).toNat,by omega⟩
  have hz:zig z=m:=by unfold zig;rw[if_neg hs];omega
  rw[hz];clear hz;go_enter Tryz.func46,Tryz.ntmps46
  go_wp2_with (go_at_call 43;go_must (refine (Fp m _ (by omega)).mono ?_;rintro e w' ⟨v,rfl,hown⟩))
  go_ret
  exact ⟨v,rfl,hown⟩
theorem Qd (s:ByteArray)(w:World)(hs:s.size≤1000000):Calls Tryz.prog 45 #[.string s] w (Nc .u8 5 w (Ac s.size++bytesOf s)):=by
 go_enter Tryz.func45,Tryz.ntmps45
 go_wp2_with (first | (go_at_call 43;go_must (refine (Fp s.size _ (by omega)).mono ?_;rintro e w' ⟨v,rfl,hown⟩)) | (at_builtin;refine BQ Tryz.elemU8w Tryz.underlying31 Tryz.underlying9 hown rfl rfl rfl rfl ?_ ?_))
 case refine_1=>have:=AJ (n:=s.size) (by omega);omega
 case refine_2 =>
  intro v1 w1 hown1 _;clear hown;go_wp2
  go_ret
  exact ⟨v1,rfl,hown1⟩
section
variable {I:WInv}{c:Bool}{k:Nat}
theorem J5 {N:Nat→Prop}{w w':World}{xs:List Nat}{t:TypeId}{e:Ending}(h:Nc .u8 t w xs e w') : ∃ v,e = .returned v∧(tit (bI xs)).sem (Nx N w w') w' G0 v∧Below w.heap.size w w':=by
 obtain ⟨v,e1,h1⟩:=h;exact ⟨_,e1,Sl h1,h1.2⟩
theorem Gr (n:Nat)(h:n≤4611686018427387904):Sp Tryz.prog I 43 [ci (n:Int)] (tit (bI (Ac n))):=by
 intro N w vs _ _ hv;rw[Kg hv];exact (Fp n w h).mono fun e w' he=>J5 he
theorem AaQ (z:Int)(h:BS z=true):Sp Tryz.prog I 46 [ci z] (tit (bI (Ac (zig z)))):=by
 intro N w vs _ _ hv;rw[Kg hv];have:=Df h;exact (Qj z w (by omega) (by omega)).mono fun e w' he=>J5 he
theorem AaM {xs:List Nat}(hx:B8 xs)(hl:xs.length≤1000000):Sp Tryz.prog I 45 [cS xs] (tit (bI (Ac xs.length++xs))):=by
 intro N w vs _ _ hv;rw[Kg hv];have:=Qd (AM xs) w (by rw[BB];omega)
 rw[BB,hx.bo] at this;exact this.mono fun e w' he=>J5 he
theorem ZU (q:Rat)(hk:k≤1000)(b:Bool)(h:decide (q.den=1)=b):Sp Tryz.prog I 95 [fc c k q] (lb b):=by
 have hm:decide (Eg (q.den:Int) 1=0)=b:=by
  rw[←h];unfold Eg;by_cases h1:q.den=1
  ·rw[h1];rfl
  ·rw[decide_eq_false h1]
   by_cases h2:(q.den:Int) < 1
   ·rw[if_pos h2];rfl
   ·rw[if_neg h2,if_neg (by omega)];rfl
 cases b with
 | false=>exact sr 9 [po ((Bx (I:=I) (c:=c) (k:=k) (p:=q) (by omega)).rs (C3 (k:=k) (q:=q)).tv),po (Tz (I:=I) 1 ⟨by omega,by omega⟩),po (AaR (I:=I) (k:=k) (j:=2) (a:=(q.den:Int)) (b:=1) (by omega) (by omega)),pk (Ba 3 (Eg (q.den:Int) 1) 0 false hm)]
 | true=>exact sr 9 [po ((Bx (I:=I) (c:=c) (k:=k) (p:=q) (by omega)).rs (C3 (k:=k) (q:=q)).tv),po (Tz (I:=I) 1 ⟨by omega,by omega⟩),po (AaR (I:=I) (k:=k) (j:=2) (a:=(q.den:Int)) (b:=1) (by omega) (by omega)),pk (Ba 3 (Eg (q.den:Int) 1) 0 true hm)]
theorem AcU {f:FuncId}{res:TV}{q:Rat}(h:Lq q k→Sp Tryz.prog I f [fc c k q] res):Sp Tryz.prog I f [fc c k q] res:=by
 intro N w vs hI hl hv;have hv':=hv;obtain ⟨v,r,e,h1,h2⟩:=hv';obtain ⟨n,d,a,b,k0,hq,hs⟩:=TX h1;exact h (by rw[←hq];exact ⟨EZ a,FW b k0,k0⟩) N w vs hI hl hv
theorem Abm (q:Rat)(hk:k≤1000)(hq:Lq q k):Sp Tryz.prog I 44 [fc c k q] (tS (BK q)):=by
 have fn:=Xg (I:=I) (Cf (k:=k) (z:=q.num) (by omega))
 have fd:=Xg (I:=I) (Cf (k:=k) (z:=(q.den:Int)) (by omega))
 have hk0:=hq.k0;have ln:=JO hq.n;have ld:=JO hq.d;have hi:=ZU (I:=I) (c:=true) (k:=k) q hk (decide (q.den=1)) rfl;unfold BK;by_cases h:q.den=1
 ·rw[if_pos h]
  rw[decide_eq_true h] at hi;exact sr 18 [po ((Bx (I:=I) (c:=c) (k:=k) (p:=q) (by omega)).rs (C3 (k:=k) (q:=q)).tv),po (Sp.wk (args':=[.ag [.b (.it (IP (kP k q.num))),.b (.it (IP (kP k (q.den:Int))))]]) (hi) ⟨(XT (by omega)),trivial⟩),po (fn)]
 ·rw[if_neg h,←List.append_assoc]
  rw[decide_eq_false h] at hi;exact sr 18 [po ((Bx (I:=I) (c:=c) (k:=k) (p:=q) (by omega)).rs (C3 (k:=k) (q:=q)).tv),po (Sp.wk (args':=[.ag [.b (.it (IP (kP k q.num))),.b (.it (IP (kP k (q.den:Int))))]]) (hi) ⟨(XT (by omega)),trivial⟩),po (fn),pk (Gs 9 (Ct q.num) [47] (by simp;omega)),po (fd),pk (Gs 9 (Ct q.num++[47]) (Ct (q.den:Int)) (by simp;omega))]
end
section
variable {I:WInv}{c:Bool}{k:Nat}
theorem Ade (x:Nat)(hx:x < 256):Be Tryz.prog (.conv 3 5) [li (x:Int)] (BF (.int .u8 (x:Int))):=By (vs:=[.int .i64 (x:Int)]) fun w=>by
 have h:IntKind.u8.wrap (x:Int)=(x:Int):=by rw[IntKind.wrap_u8];omega
 have h1:(underlying 3).run Tryz.prog w = .ok (.int .i64) w:=AL (by kernel_rfl) w
 have h2:(underlying 5).run Tryz.prog w = .ok (.int .u8) w:=AL (by kernel_rfl) w
 simp[OpK.run,convert,h1,h2,Conv.intToInt,h]
def ust (n:Nat):Go.Proofs.YtdgbealknnmkoaaGreatDoor.St:=⟨[(0,.i (n:Int)),(3,.cv (.one (.z)))],[],50⟩
theorem LO (n:Nat)(h:n < 128):SpN Tryz.prog I 43 [ci (n:Int)] none (bbx (Ac n)):=by
 have lo:LoopTr Tryz.prog I 20 (Bj Tryz.prog 43 0) (ust n) (.exit 0) (ust n):=Ck (fun h=>by cases h) (fun _=>ust n) 0 (fun i hi=>absurd hi (by omega)) (rr [pk (Cu 3 (n:Int) 128)])
 have h1:SpN Tryz.prog I 43 [ci (n:Int)] none ⟨5,some (1,1),[.b (.lit (.int .u8 (n:Int)))]⟩:=sn 20 54 [pl (lo),pk (Ade n (by omega)),⟨.ap 0 1 1,⟨by omega,by simp[maxLen]⟩⟩] rfl
 rw[CF h];exact h1
theorem AS (n:Int)(b:Bool)(h:DP n=b):Sp Tryz.prog I 40 [ci n] (lb b):=by
 unfold DP at h;by_cases h1:0≤n
 ·by_cases h2:n≤1099511627776
  ·rw[decide_eq_true h1,decide_eq_true h2] at h;subst h
   exact sr 9 [pk (B0 3 n 0),pk (Fn 3 n 1099511627776)]
  ·rw[decide_eq_true h1,decide_eq_false h2] at h;subst h
   exact sr 9 [pk (B0 3 n 0),pk (GK 3 n 1099511627776)]
 ·rw[decide_eq_false h1] at h;subst h
  exact sr 9 [pk (Cu 3 n 0)]
theorem Z4 {n:Nat}{q:Rat}(hn:n≤1099511627776)(s:List Nat)(hs8:B8 s)(hf:Sp Tryz.prog I 44 [fc c k q] (tS s)):(s.length≤400→Sp Tryz.prog I 14 [chK c k ⟨1,(n:Int),q,0,0,0⟩] (.tu [.t (bI (Ac 1++Ac n++(Ac s.length++s))),ci 0])∧SpN Tryz.prog I 14 [chK c k ⟨1,(n:Int),q,0,0,0⟩] (some [ci 0]) (bbx (Ac 1++Ac n++(Ac s.length++s))))∧(400 < s.length→Sp Tryz.prog I 14 [chK c k ⟨1,(n:Int),q,0,0,0⟩] (.tu [.one (.z),ci 10])):=by
 have hn':n≤4611686018427387904:=by omega
 have h1:=AJ (n:=1) (by omega)
 have h2:=AJ hn';have hn1:=AS (I:=I) (n:Int) true (by simp[DP];omega)
 have hn2:=AS (I:=I) 0 true rfl;have hn3:=hn2;have hc:=EA (I:=I) 0;rw[show BS 0=true from rfl] at hc;constructor
 ·intro hl
  have h3:=AJ (n:=s.length) (by omega)
  constructor
  ·exact sr 115 [pa,pa,pa,pa,po (hn1),pa,po (hn2),pa,po (hn3),pa,po (hc),pa,pa,pa,pa,pa,pa,pa,pon (LO 1 (by omega)),po (Gr n hn'),⟨.src 1 (bI (Ac n)) ((Ac n).map Aa).length ((Ac n).map Aa).flatten,BG AU (AO _)⟩,⟨.ap ((Ac 1).length) (((Ac n).map Aa).length) 1,⟨by simp;omega,by simp[maxLen];omega⟩⟩,po (hf),pk (Bf 9 3 s),pk (Ao 3 (s.length:Int) 400),po (AaM hs8 (by omega)),⟨.src 1 (bI (Ac s.length++s)) ((Ac s.length++s).map Aa).length ((Ac s.length++s).map Aa).flatten,BG AU (AO _)⟩,⟨.ap ((Ac 1).length+((Ac n).map Aa).length) (((Ac s.length++s).map Aa).length) 1,⟨by simp;omega,by simp[maxLen];omega⟩⟩,pm ((show Leads I _ ⟨[(7,.s 103),(3,.i 0)],[(103,some ⟨5,some (1,(Ac 1).length+((Ac n).map Aa).length+((Ac s.length++s).map Aa).length),((Ad ((Ac 1).map Aa))++(((Ac n).map Aa).flatten.map It.b))++(((Ac s.length++s).map Aa).flatten.map It.b)⟩)],105⟩ ⟨[(7,.s 103),(3,.i 0)],[(103,some ⟨5,some (1,(Ac 1++Ac n++(Ac s.length++s)).length),Ad ((Ac 1++Ac n++(Ac s.length++s)).map Aa)⟩)],105⟩ from AN [] ⟨rfl,TVle.refl,rfl,TVle.refl,trivial⟩ ⟨rfl,rfl,(congrArg (fun m=>some (1,m)) (show (Ac 1).length+((Ac n).map Aa).length+((Ac s.length++s).map Aa).length=(Ac 1++Ac n++(Ac s.length++s)).length by simp only[List.length_append,List.length_map] <;> omega)),ILe.eq (show ((Ad ((Ac 1).map Aa))++(((Ac n).map Aa).flatten.map It.b))++(((Ac s.length++s).map Aa).flatten.map It.b)=Ad ((Ac 1++Ac n++(Ac s.length++s)).map Aa) from by simp[Ad]),trivial⟩ (hnp:=⟨fun _=>BM (BM (Ar _) (Ar _)) (Ar _),trivial⟩))),pm (AH (I:=I) (t:=7) (k:=103) (E:=[(3,.i 0)]) (B:=[]) (nx:=105) (T:=5) (sz:=1) (n:=((Ac 1++Ac n++(Ac s.length++s)).length)) ((Ac 1++Ac n++(Ac s.length++s)).map Aa) rfl (by simp) AU rfl)]
  ·exact sn 115 103 [pa,pa,pa,pa,po (hn1),pa,po (hn2),pa,po (hn3),pa,po (hc),pa,pa,pa,pa,pa,pa,pa,pon (LO 1 (by omega)),po (Gr n hn'),⟨.src 1 (bI (Ac n)) ((Ac n).map Aa).length ((Ac n).map Aa).flatten,BG AU (AO _)⟩,⟨.ap ((Ac 1).length) (((Ac n).map Aa).length) 1,⟨by simp;omega,by simp[maxLen];omega⟩⟩,po (hf),pk (Bf 9 3 s),pk (Ao 3 (s.length:Int) 400),po (AaM hs8 (by omega)),⟨.src 1 (bI (Ac s.length++s)) ((Ac s.length++s).map Aa).length ((Ac s.length++s).map Aa).flatten,BG AU (AO _)⟩,⟨.ap ((Ac 1).length+((Ac n).map Aa).length) (((Ac s.length++s).map Aa).length) 1,⟨by simp;omega,by simp[maxLen];omega⟩⟩,pm ((show Leads I _ ⟨[(7,.s 103),(3,.i 0)],[(103,some ⟨5,some (1,(Ac 1).length+((Ac n).map Aa).length+((Ac s.length++s).map Aa).length),((Ad ((Ac 1).map Aa))++(((Ac n).map Aa).flatten.map It.b))++(((Ac s.length++s).map Aa).flatten.map It.b)⟩)],105⟩ ⟨[(7,.s 103),(3,.i 0)],[(103,some ⟨5,some (1,(Ac 1++Ac n++(Ac s.length++s)).length),Ad ((Ac 1++Ac n++(Ac s.length++s)).map Aa)⟩)],105⟩ from AN [] ⟨rfl,TVle.refl,rfl,TVle.refl,trivial⟩ ⟨rfl,rfl,(congrArg (fun m=>some (1,m)) (show (Ac 1).length+((Ac n).map Aa).length+((Ac s.length++s).map Aa).length=(Ac 1++Ac n++(Ac s.length++s)).length by simp only[List.length_append,List.length_map] <;> omega)),ILe.eq (show ((Ad ((Ac 1).map Aa))++(((Ac n).map Aa).flatten.map It.b))++(((Ac s.length++s).map Aa).flatten.map It.b)=Ad ((Ac 1++Ac n++(Ac s.length++s)).map Aa) from by simp[Ad]),trivial⟩ (hnp:=⟨fun _=>BM (BM (Ar _) (Ar _)) (Ar _),trivial⟩)))] (Ar _)
 ·intro hl
  exact sr 115 [pa,pa,pa,pa,po (hn1),pa,po (hn2),pa,po (hn3),pa,po (hc),pa,pa,pa,pa,pa,pa,pa,pon (LO 1 (by omega)),po (Gr n hn'),⟨.src 1 (bI (Ac n)) ((Ac n).map Aa).length ((Ac n).map Aa).flatten,BG AU (AO _)⟩,⟨.ap ((Ac 1).length) (((Ac n).map Aa).length) 1,⟨by simp;omega,by simp[maxLen];omega⟩⟩,po (hf),pk (Bf 9 3 s),pk (BN 3 (s.length:Int) 400)]
theorem Z3 {n a b:Nat}{q:Rat}(hn:n≤1099511627776)(ha:a≤1099511627776)(hb:b≤1099511627776)(hsg:Sp Tryz.prog I 42 [fc c k q] (li 0)):Sp Tryz.prog I 14 [chK c k ⟨2,(n:Int),q,(a:Int),(b:Int),0⟩] (.tu [.t (bI (Ac 2++Ac n++Ac a++Ac b)),ci 0])∧SpN Tryz.prog I 14 [chK c k ⟨2,(n:Int),q,(a:Int),(b:Int),0⟩] (some [ci 0]) (bbx (Ac 2++Ac n++Ac a++Ac b)):=by
 have hn':n≤4611686018427387904:=by omega
 have ha':a≤4611686018427387904:=by omega
 have hb':b≤4611686018427387904:=by omega
 have h1:=AJ (n:=2) (by omega)
 have h2:=AJ hn';have h3:=AJ ha';have h4:=AJ hb';have hn1:=AS (I:=I) (n:Int) true (by simp[DP];omega)
 have hn2:=AS (I:=I) (a:Int) true (by simp[DP];omega)
 have hn3:=AS (I:=I) (b:Int) true (by simp[DP];omega)
 have hc:=EA (I:=I) 0;rw[show BS 0=true from rfl] at hc;constructor
 ·exact sr 115 [pa,pa,pa,pa,pa,po (hn1),pa,po (hn2),pa,po (hn3),pa,po (hc),pa,pa,po (hsg),pa,pa,pa,pa,pon (LO 2 (by omega)),po (Gr n hn'),⟨.src 1 (bI (Ac n)) ((Ac n).map Aa).length ((Ac n).map Aa).flatten,BG AU (AO _)⟩,⟨.ap ((Ac 2).length) (((Ac n).map Aa).length) 1,⟨by simp;omega,by simp[maxLen];omega⟩⟩,po (Gr a ha'),⟨.src 1 (bI (Ac a)) ((Ac a).map Aa).length ((Ac a).map Aa).flatten,BG AU (AO _)⟩,⟨.ap ((Ac 2).length+((Ac n).map Aa).length) (((Ac a).map Aa).length) 1,⟨by simp;omega,by simp[maxLen];omega⟩⟩,po (Gr b hb'),⟨.src 1 (bI (Ac b)) ((Ac b).map Aa).length ((Ac b).map Aa).flatten,BG AU (AO _)⟩,⟨.ap ((Ac 2).length+((Ac n).map Aa).length+((Ac a).map Aa).length) (((Ac b).map Aa).length) 1,⟨by simp;omega,by simp[maxLen];omega⟩⟩,pm ((show Leads I _ ⟨[(7,.s 103),(3,.i 0)],[(103,some ⟨5,some (1,(Ac 2).length+((Ac n).map Aa).length+((Ac a).map Aa).length+((Ac b).map Aa).length),(((Ad ((Ac 2).map Aa))++(((Ac n).map Aa).flatten.map It.b))++(((Ac a).map Aa).flatten.map It.b))++(((Ac b).map Aa).flatten.map It.b)⟩)],105⟩ ⟨[(7,.s 103),(3,.i 0)],[(103,some ⟨5,some (1,(Ac 2++Ac n++Ac a++Ac b).length),Ad ((Ac 2++Ac n++Ac a++Ac b).map Aa)⟩)],105⟩ from AN [] ⟨rfl,TVle.refl,rfl,TVle.refl,trivial⟩ ⟨rfl,rfl,(congrArg (fun m=>some (1,m)) (show (Ac 2).length+((Ac n).map Aa).length+((Ac a).map Aa).length+((Ac b).map Aa).length=(Ac 2++Ac n++Ac a++Ac b).length by simp only[List.length_append,List.length_map] <;> omega)),ILe.eq (show (((Ad ((Ac 2).map Aa))++(((Ac n).map Aa).flatten.map It.b))++(((Ac a).map Aa).flatten.map It.b))++(((Ac b).map Aa).flatten.map It.b)=Ad ((Ac 2++Ac n++Ac a++Ac b).map Aa) from by simp[Ad]),trivial⟩ (hnp:=⟨fun _=>BM (BM (BM (Ar _) (Ar _)) (Ar _)) (Ar _),trivial⟩))),pm (AH (I:=I) (t:=7) (k:=103) (E:=[(3,.i 0)]) (B:=[]) (nx:=105) (T:=5) (sz:=1) (n:=((Ac 2++Ac n++Ac a++Ac b).length)) ((Ac 2++Ac n++Ac a++Ac b).map Aa) rfl (by simp) AU rfl)]
 ·exact sn 115 103 [pa,pa,pa,pa,pa,po (hn1),pa,po (hn2),pa,po (hn3),pa,po (hc),pa,pa,po (hsg),pa,pa,pa,pa,pon (LO 2 (by omega)),po (Gr n hn'),⟨.src 1 (bI (Ac n)) ((Ac n).map Aa).length ((Ac n).map Aa).flatten,BG AU (AO _)⟩,⟨.ap ((Ac 2).length) (((Ac n).map Aa).length) 1,⟨by simp;omega,by simp[maxLen];omega⟩⟩,po (Gr a ha'),⟨.src 1 (bI (Ac a)) ((Ac a).map Aa).length ((Ac a).map Aa).flatten,BG AU (AO _)⟩,⟨.ap ((Ac 2).length+((Ac n).map Aa).length) (((Ac a).map Aa).length) 1,⟨by simp;omega,by simp[maxLen];omega⟩⟩,po (Gr b hb'),⟨.src 1 (bI (Ac b)) ((Ac b).map Aa).length ((Ac b).map Aa).flatten,BG AU (AO _)⟩,⟨.ap ((Ac 2).length+((Ac n).map Aa).length+((Ac a).map Aa).length) (((Ac b).map Aa).length) 1,⟨by simp;omega,by simp[maxLen];omega⟩⟩,pm ((show Leads I _ ⟨[(7,.s 103),(3,.i 0)],[(103,some ⟨5,some (1,(Ac 2).length+((Ac n).map Aa).length+((Ac a).map Aa).length+((Ac b).map Aa).length),(((Ad ((Ac 2).map Aa))++(((Ac n).map Aa).flatten.map It.b))++(((Ac a).map Aa).flatten.map It.b))++(((Ac b).map Aa).flatten.map It.b)⟩)],105⟩ ⟨[(7,.s 103),(3,.i 0)],[(103,some ⟨5,some (1,(Ac 2++Ac n++Ac a++Ac b).length),Ad ((Ac 2++Ac n++Ac a++Ac b).map Aa)⟩)],105⟩ from AN [] ⟨rfl,TVle.refl,rfl,TVle.refl,trivial⟩ ⟨rfl,rfl,(congrArg (fun m=>some (1,m)) (show (Ac 2).length+((Ac n).map Aa).length+((Ac a).map Aa).length+((Ac b).map Aa).length=(Ac 2++Ac n++Ac a++Ac b).length by simp only[List.length_append,List.length_map] <;> omega)),ILe.eq (show (((Ad ((Ac 2).map Aa))++(((Ac n).map Aa).flatten.map It.b))++(((Ac a).map Aa).flatten.map It.b))++(((Ac b).map Aa).flatten.map It.b)=Ad ((Ac 2++Ac n++Ac a++Ac b).map Aa) from by simp[Ad]),trivial⟩ (hnp:=⟨fun _=>BM (BM (BM (Ar _) (Ar _)) (Ar _)) (Ar _),trivial⟩)))] (Ar _)
theorem Z2 {n:Nat}{z:Int}{q:Rat}(hn:n=0)(hz:BS z=true)(hsg:Sp Tryz.prog I 42 [fc c k q] (li 0)):Sp Tryz.prog I 14 [chK c k ⟨3,(n:Int),q,0,0,z⟩] (.tu [.t (bI (Ac 3++Ac n++Ac (zig z))),ci 0])∧SpN Tryz.prog I 14 [chK c k ⟨3,(n:Int),q,0,0,z⟩] (some [ci 0]) (bbx (Ac 3++Ac n++Ac (zig z))):=by
 have hn':n≤4611686018427387904:=by omega
 have h1:=AJ (n:=3) (by omega)
 have h2:=AJ hn';have hcz:=Df hz;have h3:=AJ (Km z (by omega) (by omega))
 have hn1:=AS (I:=I) (n:Int) true (by simp[DP];omega)
 have hn2:=AS (I:=I) 0 true rfl;have hn3:=hn2;have hc:=EA (I:=I) z;rw[hz] at hc;constructor
 ·exact sr 115 [pa,pa,pa,pa,pa,pa,po (hn1),pa,po (hn2),pa,po (hn3),pa,po (hc),pa,pk (At 3 (n:Int) 0),pa,po (hsg),pa,pa,pa,pa,pa,pon (LO 3 (by omega)),po (Gr n hn'),⟨.src 1 (bI (Ac n)) ((Ac n).map Aa).length ((Ac n).map Aa).flatten,BG AU (AO _)⟩,⟨.ap ((Ac 3).length) (((Ac n).map Aa).length) 1,⟨by simp;omega,by simp[maxLen];omega⟩⟩,po (AaQ z hz),⟨.src 1 (bI (Ac (zig z))) ((Ac (zig z)).map Aa).length ((Ac (zig z)).map Aa).flatten,BG AU (AO _)⟩,⟨.ap ((Ac 3).length+((Ac n).map Aa).length) (((Ac (zig z)).map Aa).length) 1,⟨by simp;omega,by simp[maxLen];omega⟩⟩,pm ((show Leads I _ ⟨[(7,.s 99),(3,.i 0)],[(99,some ⟨5,some (1,(Ac 3).length+((Ac n).map Aa).length+((Ac (zig z)).map Aa).length),((Ad ((Ac 3).map Aa))++(((Ac n).map Aa).flatten.map It.b))++(((Ac (zig z)).map Aa).flatten.map It.b)⟩)],101⟩ ⟨[(7,.s 99),(3,.i 0)],[(99,some ⟨5,some (1,(Ac 3++Ac n++Ac (zig z)).length),Ad ((Ac 3++Ac n++Ac (zig z)).map Aa)⟩)],101⟩ from AN [] ⟨rfl,TVle.refl,rfl,TVle.refl,trivial⟩ ⟨rfl,rfl,(congrArg (fun m=>some (1,m)) (show (Ac 3).length+((Ac n).map Aa).length+((Ac (zig z)).map Aa).length=(Ac 3++Ac n++Ac (zig z)).length by simp only[List.length_append,List.length_map] <;> omega)),ILe.eq (show ((Ad ((Ac 3).map Aa))++(((Ac n).map Aa).flatten.map It.b))++(((Ac (zig z)).map Aa).flatten.map It.b)=Ad ((Ac 3++Ac n++Ac (zig z)).map Aa) from by simp[Ad]),trivial⟩ (hnp:=⟨fun _=>BM (BM (Ar _) (Ar _)) (Ar _),trivial⟩))),pm (AH (I:=I) (t:=7) (k:=99) (E:=[(3,.i 0)]) (B:=[]) (nx:=101) (T:=5) (sz:=1) (n:=((Ac 3++Ac n++Ac (zig z)).length)) ((Ac 3++Ac n++Ac (zig z)).map Aa) rfl (by simp) AU rfl)]
 ·exact sn 115 99 [pa,pa,pa,pa,pa,pa,po (hn1),pa,po (hn2),pa,po (hn3),pa,po (hc),pa,pk (At 3 (n:Int) 0),pa,po (hsg),pa,pa,pa,pa,pa,pon (LO 3 (by omega)),po (Gr n hn'),⟨.src 1 (bI (Ac n)) ((Ac n).map Aa).length ((Ac n).map Aa).flatten,BG AU (AO _)⟩,⟨.ap ((Ac 3).length) (((Ac n).map Aa).length) 1,⟨by simp;omega,by simp[maxLen];omega⟩⟩,po (AaQ z hz),⟨.src 1 (bI (Ac (zig z))) ((Ac (zig z)).map Aa).length ((Ac (zig z)).map Aa).flatten,BG AU (AO _)⟩,⟨.ap ((Ac 3).length+((Ac n).map Aa).length) (((Ac (zig z)).map Aa).length) 1,⟨by simp;omega,by simp[maxLen];omega⟩⟩,pm ((show Leads I _ ⟨[(7,.s 99),(3,.i 0)],[(99,some ⟨5,some (1,(Ac 3).length+((Ac n).map Aa).length+((Ac (zig z)).map Aa).length),((Ad ((Ac 3).map Aa))++(((Ac n).map Aa).flatten.map It.b))++(((Ac (zig z)).map Aa).flatten.map It.b)⟩)],101⟩ ⟨[(7,.s 99),(3,.i 0)],[(99,some ⟨5,some (1,(Ac 3++Ac n++Ac (zig z)).length),Ad ((Ac 3++Ac n++Ac (zig z)).map Aa)⟩)],101⟩ from AN [] ⟨rfl,TVle.refl,rfl,TVle.refl,trivial⟩ ⟨rfl,rfl,(congrArg (fun m=>some (1,m)) (show (Ac 3).length+((Ac n).map Aa).length+((Ac (zig z)).map Aa).length=(Ac 3++Ac n++Ac (zig z)).length by simp only[List.length_append,List.length_map] <;> omega)),ILe.eq (show ((Ad ((Ac 3).map Aa))++(((Ac n).map Aa).flatten.map It.b))++(((Ac (zig z)).map Aa).flatten.map It.b)=Ad ((Ac 3++Ac n++Ac (zig z)).map Aa) from by simp[Ad]),trivial⟩ (hnp:=⟨fun _=>BM (BM (Ar _) (Ar _)) (Ar _),trivial⟩)))] (Ar _)
set_option maxRecDepth 100000 in
theorem T4 (x : Ch) (hk : k ≤ 262144) (hw : Bp x = false) : Sp Tryz.prog I 14 [chK c k x] (.tu [.one (.z), ci 5]) := by
 have hc:=EA (I:=I) x.cost;by_cases hk1:x.kind=1
 ·cases h1 : DP x.node with
  | false=>exact sr 115 [pk (Ak 3 x.kind 1),pk (Af 3 x.kind 2),pk (Af 3 x.kind 3),pa,po (AS x.node false h1),pa]
  | true =>
   cases h2:DP x.fst with
   | false=>exact sr 115 [pk (Ak 3 x.kind 1),pk (Af 3 x.kind 2),pk (Af 3 x.kind 3),pa,po (AS x.node true h1),pa,po (AS x.fst false h2),pa]
   | true =>
    cases h3:DP x.nxt with
    | false=>exact sr 115 [pk (Ak 3 x.kind 1),pk (Af 3 x.kind 2),pk (Af 3 x.kind 3),pa,po (AS x.node true h1),pa,po (AS x.fst true h2),pa,po (AS x.nxt false h3),pa]
    | true =>
     cases h4:BS x.cost with
     | false=>rw[h4] at hc;exact sr 115 [pk (Ak 3 x.kind 1),pk (Af 3 x.kind 2),pk (Af 3 x.kind 3),pa,po (AS x.node true h1),pa,po (AS x.fst true h2),pa,po (AS x.nxt true h3),pa,po (hc),pa]
     | true =>
      rw[h4] at hc;by_cases g6:x.fst≠0
      ·exact sr 115 [pk (Ak 3 x.kind 1),pk (Af 3 x.kind 2),pk (Af 3 x.kind 3),pa,po (AS x.node true h1),pa,po (AS x.fst true h2),pa,po (AS x.nxt true h3),pa,po (hc),pa,pa,pa,pk (AR 3 x.fst 0)]
      ·by_cases g7:x.nxt≠0
       ·exact sr 115 [pk (Ak 3 x.kind 1),pk (Af 3 x.kind 2),pk (Af 3 x.kind 3),pa,po (AS x.node true h1),pa,po (AS x.fst true h2),pa,po (AS x.nxt true h3),pa,po (hc),pa,pa,pa,pk (At 3 x.fst 0),pk (AR 3 x.nxt 0)]
       ·by_cases g8:x.cost≠0
        ·exact sr 115 [pk (Ak 3 x.kind 1),pk (Af 3 x.kind 2),pk (Af 3 x.kind 3),pa,po (AS x.node true h1),pa,po (AS x.fst true h2),pa,po (AS x.nxt true h3),pa,po (hc),pa,pa,pa,pk (At 3 x.fst 0),pk (At 3 x.nxt 0),pa,pk (AR 3 x.cost 0)]
        ·exfalso
         simp only[Decidable.not_not] at g6 g7 g8;revert hw;unfold Bp;simp[h1,h2,h3,h4,g6,g7,g8,hk1] <;> decide
 by_cases hk2:x.kind=2
 ·cases h1 : DP x.node with
  | false=>exact sr 115 [pk (Af 3 x.kind 1),pk (Ak 3 x.kind 2),pk (Af 3 x.kind 3),pa,pa,po (AS x.node false h1),pa]
  | true =>
   cases h2:DP x.fst with
   | false=>exact sr 115 [pk (Af 3 x.kind 1),pk (Ak 3 x.kind 2),pk (Af 3 x.kind 3),pa,pa,po (AS x.node true h1),pa,po (AS x.fst false h2),pa]
   | true =>
    cases h3:DP x.nxt with
    | false=>exact sr 115 [pk (Af 3 x.kind 1),pk (Ak 3 x.kind 2),pk (Af 3 x.kind 3),pa,pa,po (AS x.node true h1),pa,po (AS x.fst true h2),pa,po (AS x.nxt false h3),pa]
    | true =>
     cases h4:BS x.cost with
     | false=>rw[h4] at hc;exact sr 115 [pk (Af 3 x.kind 1),pk (Ak 3 x.kind 2),pk (Af 3 x.kind 3),pa,pa,po (AS x.node true h1),pa,po (AS x.fst true h2),pa,po (AS x.nxt true h3),pa,po (hc),pa]
     | true =>
      rw[h4] at hc;by_cases g5:x.q.num.sign≠0
      ·exact sr 115 [pk (Af 3 x.kind 1),pk (Ak 3 x.kind 2),pk (Af 3 x.kind 3),pa,pa,po (AS x.node true h1),pa,po (AS x.fst true h2),pa,po (AS x.nxt true h3),pa,po (hc),pa,pa,po (Ed (c:=c) (k:=k) (p:=x.q) hk),pk (AR 3 x.q.num.sign 0)]
      ·by_cases g8:x.cost≠0
       ·exact sr 115 [pk (Af 3 x.kind 1),pk (Ak 3 x.kind 2),pk (Af 3 x.kind 3),pa,pa,po (AS x.node true h1),pa,po (AS x.fst true h2),pa,po (AS x.nxt true h3),pa,po (hc),pa,pa,po (Ed (c:=c) (k:=k) (p:=x.q) hk),pk (At 3 x.q.num.sign 0),pa,pa,pk (AR 3 x.cost 0)]
       ·exfalso
        simp only[Decidable.not_not] at g5 g8;revert hw;unfold Bp;simp[h1,h2,h3,h4,g5,g8,hk2] <;> decide
 by_cases hk3:x.kind=3
 ·cases h1 : DP x.node with
  | false=>exact sr 115 [pk (Af 3 x.kind 1),pk (Af 3 x.kind 2),pk (Ak 3 x.kind 3),pa,pa,pa,po (AS x.node false h1),pa]
  | true =>
   cases h2:DP x.fst with
   | false=>exact sr 115 [pk (Af 3 x.kind 1),pk (Af 3 x.kind 2),pk (Ak 3 x.kind 3),pa,pa,pa,po (AS x.node true h1),pa,po (AS x.fst false h2),pa]
   | true =>
    cases h3:DP x.nxt with
    | false=>exact sr 115 [pk (Af 3 x.kind 1),pk (Af 3 x.kind 2),pk (Ak 3 x.kind 3),pa,pa,pa,po (AS x.node true h1),pa,po (AS x.fst true h2),pa,po (AS x.nxt false h3),pa]
    | true =>
     cases h4:BS x.cost with
     | false=>rw[h4] at hc;exact sr 115 [pk (Af 3 x.kind 1),pk (Af 3 x.kind 2),pk (Ak 3 x.kind 3),pa,pa,pa,po (AS x.node true h1),pa,po (AS x.fst true h2),pa,po (AS x.nxt true h3),pa,po (hc),pa]
     | true =>
      rw[h4] at hc;by_cases g4:x.node≠0
      ·exact sr 115 [pk (Af 3 x.kind 1),pk (Af 3 x.kind 2),pk (Ak 3 x.kind 3),pa,pa,pa,po (AS x.node true h1),pa,po (AS x.fst true h2),pa,po (AS x.nxt true h3),pa,po (hc),pa,pk (AR 3 x.node 0)]
      ·by_cases g5:x.q.num.sign≠0
       ·exact sr 115 [pk (Af 3 x.kind 1),pk (Af 3 x.kind 2),pk (Ak 3 x.kind 3),pa,pa,pa,po (AS x.node true h1),pa,po (AS x.fst true h2),pa,po (AS x.nxt true h3),pa,po (hc),pa,pk (At 3 x.node 0),pa,po (Ed (c:=c) (k:=k) (p:=x.q) hk),pk (AR 3 x.q.num.sign 0)]
       ·by_cases g6:x.fst≠0
        ·exact sr 115 [pk (Af 3 x.kind 1),pk (Af 3 x.kind 2),pk (Ak 3 x.kind 3),pa,pa,pa,po (AS x.node true h1),pa,po (AS x.fst true h2),pa,po (AS x.nxt true h3),pa,po (hc),pa,pk (At 3 x.node 0),pa,po (Ed (c:=c) (k:=k) (p:=x.q) hk),pk (At 3 x.q.num.sign 0),pa,pk (AR 3 x.fst 0)]
        ·by_cases g7:x.nxt≠0
         ·exact sr 115 [pk (Af 3 x.kind 1),pk (Af 3 x.kind 2),pk (Ak 3 x.kind 3),pa,pa,pa,po (AS x.node true h1),pa,po (AS x.fst true h2),pa,po (AS x.nxt true h3),pa,po (hc),pa,pk (At 3 x.node 0),pa,po (Ed (c:=c) (k:=k) (p:=x.q) hk),pk (At 3 x.q.num.sign 0),pa,pk (At 3 x.fst 0),pk (AR 3 x.nxt 0)]
         ·exfalso
          simp only[Decidable.not_not] at g4 g5 g6 g7;revert hw;unfold Bp;simp[h1,h2,h3,h4,g4,g5,g6,g7,hk3] <;> decide
 exact sr 115 [pk (Af 3 x.kind 1),pk (Af 3 x.kind 2),pk (Af 3 x.kind 3),pa,pa,pa]
theorem GR (x:Ch)(hk:k≤1000):Sp Tryz.prog I 14 [chK c k x] (.tu [.t (bI (Bb x).1),ci (Bb x).2])∧(((Bb x).2=0∧SpN Tryz.prog I 14 [chK c k x] (some [ci 0]) (bbx (Bb x).1))∨((Bb x).2≠0∧(Bb x).1=[]∧Sp Tryz.prog I 14 [chK c k x] (.tu [.one (.z),ci (Bb x).2]))):=by
 unfold Bb;cases hb:Bp x with
 | false =>
  rw[if_pos rfl];exact ⟨Vo (T4 x (by omega) hb),.inr ⟨by decide,rfl,T4 x (by omega) hb⟩⟩
 | true =>
  rw[if_neg (by decide)]
  obtain ⟨n,hn,e1,h⟩:=LJ hb;obtain ⟨kind,node,q,fst,nxt,cost⟩:=x;simp only at e1 h;subst e1;rcases h with ⟨rfl,rfl,rfl,rfl⟩ | ⟨rfl,hs,rfl,a,b,ha,hb',rfl,rfl⟩ | ⟨rfl,hs,rfl,rfl,h0,hz⟩
  ·obtain ⟨p1,p2⟩:=Z4 (I:=I) hn (BK q) (JN q) (AcU (fun h=>Abm (c:=c) q hk h))
   by_cases hl:400 < (BK q).length
   ·rw[if_pos ⟨rfl,hl⟩]
    exact ⟨Vo (p2 hl),.inr ⟨by decide,rfl,p2 hl⟩⟩
   ·rw[if_neg (fun h=>hl h.2)]
    exact ⟨(p1 (by omega)).1,.inl ⟨rfl,(p1 (by omega)).2⟩⟩
  ·rw[if_neg (fun h=>by cases h.1)]
   have sg:=Ed (I:=I) (c:=c) (k:=k) (p:=q) (by omega)
   rw[hs] at sg;have:=Z3 hn ha hb' sg;rw[List.append_assoc] at this;exact ⟨this.1,.inl ⟨rfl,this.2⟩⟩
  ·rw[if_neg (fun h=>by cases h.1)]
   have sg:=Ed (I:=I) (c:=c) (k:=k) (p:=q) (by omega)
   rw[hs] at sg;have:=Z2 h0 hz sg;exact ⟨this.1,.inl ⟨rfl,this.2⟩⟩
end
def Hf (r:Nat×Nat×Nat)(w:World)(e:Ending)(w':World):Prop:=e = .returned (.tuple #[.int .i64 (r.1:Int),.int .i64 (r.2.1:Int),.bool (decide (r.2.2=0))])∧w=w'
set_option maxRecDepth 100000 in
theorem OD {A : Option Addr} {n c B : Nat} {xs : List Nat} (w : World) (hr : Rd .u8 w B A n xs) (hx : ∀ x ∈ xs, x < 256) (hn : n ≤ 9223372036854775807) :
  Calls Tryz.prog 57 #[.slice A n c] w (Hf (AZ xs) w):=by
 have HX:=Lib.hid hx;have HL:=Lib.hid hr.len;clear hx;go_enter Tryz.func57,Tryz.ntmps57
 go_wp2
 go_loop [5,6] (fun m i => ∃ k t:Nat,k≤9∧i = .int .i64 k∧k≤n∧m = .int .u64 t∧t < 2 ^ (7*k)∧Hid (Cm (9 - k) (xs.drop k) k t=AZ xs)) (fun _ i=>9 - (intOf i).toNat)
 case atStart=>exact ⟨0,0,by omega,rfl,by omega,rfl,by omega,rfl⟩
 case round =>
  obtain ⟨k,t,hk,rfl,hkn,rfl,ht,HE⟩:=hrel;have HT:=Lib.hid ht;clear ht;by_cases hlt:k < n
  ·by_cases h9 : k < 9
   ·obtain ⟨b, off, rfl, hbB, hc⟩ := hr.at_ hlt
    have hy:=D0 xs k 256 HX.out (by omega)
    have hd:=BJ xs k (by rw[HL.out];exact hlt)
    rw[hd,show 9 - k=(9 - (k+1))+1 by omega] at HE
    clear hd;generalize xs.getD k 0=y at *;have M':=Lib.hid (Dm (9 - (k+1)) y k t (xs.drop (k+1)));have B':=Lib.hid (FB (9 - (k+1)) y k t (xs.drop (k+1)));have G':=Lib.hid (DD (9 - (k+1)) y k t (xs.drop (k+1)));obtain ⟨z,p,q,e1,hz,_,e3,_,e4,hq,hg,hqe⟩:=Ok y t k hy h9 HT.out;rw[←hqe] at M' B' G';have HG:=Lib.hid hg;clear hg hqe;by_cases ha:128≤y
    ·go_wp2
     go_round
     case rel=>exact ⟨k+1,q,by omega,by go_num,by omega,rfl,HG.out,(M'.out ha).symm.trans HE.out⟩
     case measure=>simp[intOf];omega
    ·by_cases hb : y = 0 ∧ 0 < k
     ·have HB:=Lib.hid hb
      have hb0:((y:Int) == 0)=true:=by simp[hb.1]
      have hk0:0 < k:=hb.2;clear hb;have fin:Hf (AZ xs) w (.returned (.tuple #[.int .i64 0,.int .i64 0,.bool false])) w:=by
       rw[←HE.out,B'.out (by omega) (.inl HB.out)]
       exact ⟨rfl,rfl⟩
      have FIN:=Lib.hid fin;clear fin;go_wp2
      go_ret3
      exact FIN.out
     ·have HB:=Lib.hid hb
      by_cases hq2:4611686018427387904 < q
      ·have fin:Hf (AZ xs) w (.returned (.tuple #[.int .i64 0,.int .i64 0,.bool false])) w:=by
        rw[←HE.out,B'.out (by omega) (.inr hq2)]
        exact ⟨rfl,rfl⟩
       have FIN:=Lib.hid fin;clear fin hb;by_cases hk0:0 < k
       ·have hb0:((y:Int) == 0)=false:=by
         have:y≠0:=fun h=>HB.out ⟨h,hk0⟩
         simp[this]
        go_wp2
        go_ret3
        exact FIN.out
       ·go_wp2
        go_ret3
        exact FIN.out
      ·have fin:Hf (AZ xs) w (.returned (.tuple #[.int .i64 q,.int .i64 ((k+1:Nat):Int),.bool true])) w:=by
        rw[←HE.out,G'.out (by omega) (by rintro (h | h);exact HB.out h;exact hq2 h)]
        exact ⟨rfl,rfl⟩
       have FIN:=Lib.hid fin;clear fin hb;by_cases hk0:0 < k
       ·have hb0:((y:Int) == 0)=false:=by
         have:y≠0:=fun h=>HB.out ⟨h,hk0⟩
         simp[this]
        go_wp2
        go_ret3
        exact FIN.out
       ·go_wp2
        go_ret3
        exact FIN.out
   ·have fin:Hf (AZ xs) w (.returned (.tuple #[.int .i64 0,.int .i64 0,.bool false])) w:=by
     rw[←HE.out,show 9 - k=0 by omega]
     exact ⟨rfl,rfl⟩
    have FIN:=Lib.hid fin;clear fin;go_wp2
    go_ret3
    exact FIN.out
  ·have fin:Hf (AZ xs) w (.returned (.tuple #[.int .i64 0,.int .i64 0,.bool false])) w:=by
    rw[←HE.out,List.drop_eq_nil_of_le (by rw[HL.out];omega)]
    by_cases h9:k=9
    ·rw[show 9 - k=0 by omega];exact ⟨rfl,rfl⟩
    ·rw[show 9 - k=(9 - (k+1))+1 by omega,Ol];exact ⟨rfl,rfl⟩
   have FIN:=Lib.hid fin;clear fin;go_wp2
   go_ret3
   exact FIN.out
section
variable {I:WInv}{c:Bool}{k:Nat}
theorem Cz {xs:List Nat}(hx:B8 xs):Sp Tryz.prog I 57 [.t (bI xs)] (.tu [ci ((AZ xs).1:Nat),ci ((AZ xs).2.1:Nat),cb (decide ((AZ xs).2.2=0))]):=by
 intro N w vs _ hN hv;obtain ⟨v,r,rfl,h,h'⟩:=hv;have h':r=[]:=h';subst h';obtain ⟨A,c,e1,h1,h2,h3⟩:=MX h;injection e1 with e1;subst e1;refine (OD w h1 hx (by omega)).mono fun e w' ⟨he,hw⟩ => ?_
 subst he hw;exact ⟨_,rfl,⟨_,rfl,_,_,rfl,rfl,_,_,rfl,rfl,_,_,rfl,rfl,rfl⟩,Below.refl _ _⟩
theorem WC {xs ys:List Nat}(b:Bool)(h:decide (xs=ys)=b)(hx:B8 xs)(hy:B8 ys):Sp Tryz.prog I 59 [.t (bI xs),.t (bI ys)] (lb b) :=
 sr 10 [pk (Gi xs),pk (Gi ys),pk (RN 9 xs ys b h hx hy)]
end
def Gn (l:List Nat):Int:=l.foldl (fun (a:Int) (c:Nat)=>a*10+((c:Int) - 48)) 0
theorem EJ (l:List Nat)(c:Nat):Gn (l++[c])=Gn l*10+((c:Int) - 48):=by simp[Gn]
theorem KI : ∀ (n:Nat) (l:List Nat),l.length=n→okD l→Gn l=(nd l:Nat)
 | 0,l,h,_=>by rw[List.eq_nil_of_length_eq_zero h];rfl
 | n+1,l,h,hd=>by
  obtain ⟨a,x,rfl⟩ : ∃ a x,l=a++[x]:=⟨l.dropLast,l.getLast (by intro h0;rw[h0] at h;simp at h),(List.dropLast_concat_getLast _).symm⟩
  have hx:=hd x (by simp)
  rw[EJ,L5,KI n a (by simpa using h) (fun c hc=>hd c (by simp[hc]))]
  omega
theorem Rq : ∀ (n:Nat) (l:List Nat),l.length=n→B8 l→(Gn l).natAbs+23≤23*10 ^ n
 | 0,l,h,_=>by rw[List.eq_nil_of_length_eq_zero h];simp[Gn]
 | n+1,l,h,hd=>by
  obtain ⟨a,x,rfl⟩ : ∃ a x,l=a++[x]:=⟨l.dropLast,l.getLast (by intro h0;rw[h0] at h;simp at h),(List.dropLast_concat_getLast _).symm⟩
  have hx:=hd x (by simp)
  have ih:=Rq n a (by simpa using h) (fun c hc=>hd c (by simp[hc]))
  rw[EJ,Nat.pow_succ];omega
theorem Xo {n m X:Nat}(h:n≤m)(e:10 ^ m=X):10 ^ n≤X:=e▸Nat.pow_le_pow_right (Nat.succ_pos 9) h
theorem GY {l:List Nat}(h:B8 l)(hl:l.length≤500):Lim 84 (Gn l):=by
 unfold Lim;have h1:=Rq _ l rfl h;have h3:l.length+2≤800:=by omega
 have hp:=Si;obtain ⟨X,hX⟩ : ∃ X,(10:Nat) ^ 800=X:=⟨_,rfl⟩;rw[hX] at hp;have h2:(10:Nat) ^ (l.length+2)≤X:=Xo h3 hX;clear hX h3;rw[Nat.pow_succ,Nat.pow_succ] at h2;refine Nat.lt_of_le_of_lt ?_ hp;clear hp;generalize (10:Nat) ^ l.length=Y at *;omega
def dv (s:List Nat)(i:Nat):Int:=if BD s then Gn ((s.take i).drop 1) else Gn (s.take i)
theorem Aai (s:List Nat):dv s 0=0:=by unfold dv;simp[Gn]
theorem Aak {s:List Nat}(h:BD s=true):dv s 1=dv s 0:=by
 unfold dv;rw[if_pos h,if_pos h];cases s with
 | nil=>rfl
 | cons a l=>rfl
theorem Aaj {s:List Nat}{i:Nat}(hi:i < s.length)(h : ¬ (i=0∧BD s=true)):dv s (i+1)=dv s i*10+((s.getD i 0:Nat) - 48:Int):=by
 have ht:s.take (i+1)=s.take i++[s.getD i 0]:=by
  rw[List.take_add_one,List.getD_eq_getElem?_getD,List.getElem?_eq_getElem hi];rfl
 unfold dv;by_cases hn:BD s=true
 ·rw[if_pos hn,if_pos hn,ht]
  have h0:0 < i:=by
   rcases Nat.eq_zero_or_pos i with h0 | h0
   ·exact absurd ⟨h0,hn⟩ h
   ·exact h0
  rw[List.drop_append_of_le_length (by rw[List.length_take];omega),EJ]
 ·rw[if_neg hn,if_neg hn,ht,EJ]
theorem SI {s:List Nat}(h:B8 s)(hl:s.length≤500)(i:Nat):Lim 84 (dv s i):=by
 unfold dv;split
 ·exact GY ((h.take i).drop 1) (by simp only[List.length_drop,List.length_take];omega)
 ·exact GY (h.take i) (by simp only[List.length_take];omega)
def Ji (s:List Nat):Int:=if BD s then -dv s s.length else dv s s.length
theorem JS {s:List Nat}(h:B8 s)(hl:s.length≤500):Lim 84 (Ji s):=by
 have:=SI h hl s.length;unfold Ji;split
 ·exact this.neg
 ·exact this
theorem Rk (z:Int):Ji (Ct z)=z:=by
 have hd:=MM z.natAbs;obtain ⟨n1,n2⟩:=Ru hd;unfold Ct Dl;by_cases h:z < 0
 ·rw[if_pos ⟨decide_eq_true h,by omega⟩]
  have hn:BD ([45]++dec z.natAbs)=true:=rfl;have e1:List.drop 1 ([45]++dec z.natAbs)=dec z.natAbs:=rfl;unfold Ji dv;rw[if_pos hn,if_pos hn,List.take_length,e1,KI _ _ rfl hd.2.1,H9];omega
 ·rw[if_neg (fun h1=>h (of_decide_eq_true h1.1)),List.nil_append]
  unfold Ji dv;rw[n1,if_neg (by decide),if_neg (by decide),List.take_length,KI _ _ rfl hd.2.1,H9]
  omega
def Rb (s:List Nat):Rat:=match CU 47 s with
 | some i=>(Ji (s.take i):Rat) / (Ji (s.drop (i+1)):Rat)
 | none=>(Ji s:Rat)
theorem XM (q:Rat):Rb (BK q)=q:=by
 unfold Rb;by_cases h:q.den=1
 ·rw[(Oe q h).1]
  have e:BK q=Ct q.num:=by unfold BK;rw[if_pos h]
  simp only[e,Rk];have:=BH q;rw[h] at this;have e2:(q.num:Rat)=Rat.divInt q.num ((1:Nat):Int):=by rw[Rat.divInt_eq_div];grind
  rw[e2];exact this
 ·rw[MB q h]
  have e:BK q=Ct q.num++([47]++Ct (q.den:Int)):=by unfold BK;rw[if_neg h]
  have e1:(BK q).take (Ct q.num).length=Ct q.num:=by rw[e,List.take_left]
  have e2:(BK q).drop ((Ct q.num).length+1)=Ct (q.den:Int):=by rw[e,←List.drop_drop,List.drop_left];rfl
  simp only[e1,e2,Rk];rw[←Rat.divInt_eq_div];exact BH q
theorem ZZ {s:List Nat}(h:B8 s)(hl:s.length≤400):Lq (Rb s) 84:=by
 unfold Rb;split
 ·rename_i i hi
  rw[←Rat.divInt_eq_div];exact ⟨EZ (JS (h.take i) (by rw[List.length_take];omega)),FW (JS (h.drop (i+1)) (by rw[List.length_drop];omega)) (by omega),by omega⟩
 ·exact Lq.int (JS h (by omega)) (by omega)
section
variable {I:WInv}{c c':Bool}{k j:Nat}{p q:Rat}
theorem YY:Sp Tryz.prog I 151 [fc c 100 p,fc c' 100 q] (tfc true 201 (p+q)):=by
 have e:=T7 (a:=p.num) (b:=(p.den:Int)) (c:=q.num) (d:=(q.den:Int)) (by have:=p.den_pos;omega) (by have:=q.den_pos;omega)
 rw[BH,BH] at e;rw[←e];exact sr 26 [po ((Bx (I:=I) (c:=c) (k:=100) (p:=p) (by omega)).rs (C3 (k:=100) (q:=p)).tv),po ((Bx (I:=I) (c:=c') (k:=100) (p:=q) (by omega)).rs (C3 (k:=100) (q:=q)).tv),po (EX (I:=I) (k:=100) (j:=100) (a:=p.num) (b:=(q.den:Int)) (by omega)),po (EX (I:=I) (k:=100) (j:=100) (a:=q.num) (b:=(p.den:Int)) (by omega)),po (AaS (I:=I) (k:=200) (j:=200) (m:=201) (a:=p.num*(q.den:Int)) (b:=q.num*(p.den:Int)) (by omega) (by omega) (by omega)),po (EX (I:=I) (k:=100) (j:=100) (a:=(p.den:Int)) (b:=(q.den:Int)) (by omega)),po (H8 (I:=I) (k:=201) (j:=200) (m:=201) (a:=(p.num*(q.den:Int))+(q.num*(p.den:Int))) (b:=(p.den:Int)*(q.den:Int)) (by omega) (by omega) (by omega) (by omega))]
theorem AbR:Sp Tryz.prog I 125 [fc c 100 p,fc c' 100 q] (tfc true 200 (p*q)):=by
 have e:=T5 p.num p.den q.num q.den;rw[BH,BH] at e;rw[←e];exact sr 20 [po ((Bx (I:=I) (c:=c) (k:=100) (p:=p) (by omega)).rs (C3 (k:=100) (q:=p)).tv),po ((Bx (I:=I) (c:=c') (k:=100) (p:=q) (by omega)).rs (C3 (k:=100) (q:=q)).tv),po (EX (I:=I) (k:=100) (j:=100) (a:=p.num) (b:=q.num) (by omega)),po (EX (I:=I) (k:=100) (j:=100) (a:=(p.den:Int)) (b:=(q.den:Int)) (by omega)),po (H8 (I:=I) (k:=200) (j:=200) (m:=200) (a:=p.num*q.num) (b:=(p.den:Int)*(q.den:Int)) (by omega) (by omega) (by omega) (by omega))]
theorem Acn:Sp Tryz.prog I 68 [fc c 100 p,fc c' 100 q] (tfc true 200 (p / q)):=by
 have e:=T6 p.num p.den q.num q.den;rw[BH,BH] at e;rw[←e];exact sr 20 [po ((Bx (I:=I) (c:=c) (k:=100) (p:=p) (by omega)).rs (C3 (k:=100) (q:=p)).tv),po ((Bx (I:=I) (c:=c') (k:=100) (p:=q) (by omega)).rs (C3 (k:=100) (q:=q)).tv),po (EX (I:=I) (k:=100) (j:=100) (a:=p.num) (b:=(q.den:Int)) (by omega)),po (EX (I:=I) (k:=100) (j:=100) (a:=(p.den:Int)) (b:=q.num) (by omega)),po (H8 (I:=I) (k:=200) (j:=200) (m:=200) (a:=p.num*(q.den:Int)) (b:=(p.den:Int)*q.num) (by omega) (by omega) (by omega) (by omega))]
theorem Abq:Sp Tryz.prog I 117 [fc c 100 p,fc c' 100 q] (tfc true 201 (p - q)):=by
 rw[show p - q=p + -q by grind]
 exact sr 9 [po (Pb (I:=I) (c:=c') (k:=100) (p:=q) (by omega)),po (YY (I:=I) (c:=c) (c':=true) (p:=p) (q := -q))]
theorem Acs:Sp Tryz.prog I 74 [fc c 100 p,fc c' 100 q] (li (FF p q)):=by
 rw[←Ts];exact sr 9 [po (Abq (I:=I) (c:=c) (c':=c') (p:=p) (q:=q)),po (Ed (I:=I) (c:=true) (k:=201) (p:=p - q) (by omega))]
theorem TY {q':Rat}(h:Lq q j)(e:q'=q):CTle (fc true k q') (fc true j q):=by
 subst e;exact fun N w g v hv=>KF h N w g v (XX N w g v hv)
theorem AcS {v:Int}(h:Lim 84 (v*10)):Sp Tryz.prog I 125 [fc true 84 (v:Rat),fc true 2 ((10:Int):Rat)] (tfc true 84 ((v*10:Int):Rat)) :=
 ((AbR (c:=true) (c':=true) (p:=(v:Rat)) (q:=((10:Int):Rat))).wk (args':=[fc true 84 (v:Rat),fc true 2 ((10:Int):Rat)]) ⟨GB (by omega),GB (by omega),trivial⟩).rs (TY (Lq.int h (by omega)) (Rat.intCast_mul v 10).symm).tv
theorem Adw {v d:Int}(h:Lim 84 (v+d)):Sp Tryz.prog I 151 [fc true 84 (v:Rat),fc true 2 (d:Rat)] (tfc true 84 ((v+d:Int):Rat)) :=
 ((YY (c:=true) (c':=true) (p:=(v:Rat)) (q:=(d:Rat))).wk (args':=[fc true 84 (v:Rat),fc true 2 (d:Rat)]) ⟨GB (by omega),GB (by omega),trivial⟩).rs (TY (Lq.int h (by omega)) (Rat.intCast_add v d).symm).tv
end
theorem Ya {s:List Nat}(h:B8 s)(hl:s.length≤400)(i:Nat):Lim 84 (dv s i*10):=by
 have h48:B8 [48]:=fun x hx=>by simp at hx;omega
 have e : ∀ l:List Nat,Gn l*10=Gn (l++[48]):=fun l=>by rw[EJ];omega
 unfold dv;split
 ·rw[e];exact GY (((h.take i).drop 1).app h48) (by simp only[List.length_append,List.length_drop,List.length_take,List.length_singleton];omega)
 ·rw[e];exact GY ((h.take i).app h48) (by simp only[List.length_append,List.length_take,List.length_singleton];omega)
section
variable {I:WInv}{c c':Bool}{k j:Nat}{p q:Rat}
theorem Abf (x:Nat)(hx:x < 256):Be Tryz.prog (.conv 5 3) [BF (.int .u8 (x:Int))] (li (x:Int)):=By (vs:=[.int .u8 (x:Int)]) fun w=>by
 have h1:(underlying 3).run Tryz.prog w = .ok (.int .i64) w:=AL (by kernel_rfl) w
 have h2:(underlying 5).run Tryz.prog w = .ok (.int .u8) w:=AL (by kernel_rfl) w
 simp[OpK.run,convert,h1,h2,Conv.intToInt,IntWalk.i64_in (x:Int) ⟨by omega,by omega⟩]
def dcs (s:List Nat)(i v:Int):Go.Proofs.YtdgbealknnmkoaaGreatDoor.St:=⟨[(0,.cv (.one (.b (.lit (.string (AM s)))))),(2,.p 0 0),(3,.p 2 0),(4,.i i)],[(0,some ⟨26,none,[.o false,.z,.o false,.z]⟩),(2,some ⟨26,none,[.b (.it (fF true 84 (v:Rat)))]⟩)],50⟩
theorem P5 {s : List Nat} (hs : B8 s) (hl : s.length ≤ 400) : LoopTr Tryz.prog I 41 (Bj Tryz.prog 109 0) (dcs s ((0 : Nat) : Int) (dv s 0)) (.exit 0) (dcs s ((s.length : Nat) : Int) (dv s s.length)) := by
 refine Ck (P:=Tryz.prog) (I:=I) (nt:=41) (c:=Bj Tryz.prog 109 0) (ex := .exit 0) (fun h=>by cases h) (fun i=>dcs s (i:Int) (dv s i)) s.length (fun i hi => ?_) ?_
 ·have hb:=hs.getD i
  by_cases h:i=0∧BD s=true
  ·obtain ⟨h0,hn⟩:=h
   have e:=Aak hn;have h45:decide (((s.getD i 0:Nat):Int)=45)=true:=by
    rw[h0];unfold BD at hn;simp at hn ⊢;omega
   have e2:dv s (i+1)=dv s i:=by rw[h0];exact e
   rw[e2];generalize dv s i=v;exact rr [pk (Bf 9 3 s),pk (As 3 (i:Int) ((s.length:Nat):Int)),pk (Ak 3 (i:Int) 0),pk (Dv 9 s i _ rfl hi hs),pk (Jo 5 ((s.getD i 0:Nat):Int) 45 true h45),pk (Az 3 (i:Int) 1 ⟨by omega,by omega⟩)]
  ·have e:=Aaj hi h
   have l1:=SI hs (by omega) i
   have l2:=SI hs (by omega) (i+1)
   have l3:=Ya hs (by omega) i
   rw[e] at l2 ⊢;generalize dv s i=v at *;have hm:=AcS (I:=I) l3;have ha:=Adw (I:=I) l2;by_cases h0:i=0
   ·have h45:decide (((s.getD i 0:Nat):Int)=45)=false:=by
     refine decide_eq_false fun h1=>h ⟨h0,?_⟩
     rw[h0] at h1;unfold BD;have:s.getD 0 0=45:=by omega
     rw[this];rfl
    exact rr [pk (Bf 9 3 s),pk (As 3 (i:Int) ((s.length:Nat):Int)),pk (Ak 3 (i:Int) 0),pk (Dv 9 s i _ rfl hi hs),pk (Jo 5 ((s.getD i 0:Nat):Int) 45 false h45),po ((Je (I:=I) 10 ⟨by omega,by omega⟩)),po (hm),pk (Dv 9 s i _ rfl hi hs),pk (Abf (s.getD i 0) hb),pk (Ov 3 ((s.getD i 0:Nat):Int) 48 ⟨by omega,by omega⟩),po ((Je (I:=I) (((s.getD i 0:Nat):Int) - 48) ⟨by omega,by omega⟩)),po (ha),pk (Az 3 (i:Int) 1 ⟨by omega,by omega⟩)]
   ·exact rr [pk (Bf 9 3 s),pk (As 3 (i:Int) ((s.length:Nat):Int)),pk (Af 3 (i:Int) 0),po ((Je (I:=I) 10 ⟨by omega,by omega⟩)),po (hm),pk (Dv 9 s i _ rfl hi hs),pk (Abf (s.getD i 0) hb),pk (Ov 3 ((s.getD i 0:Nat):Int) 48 ⟨by omega,by omega⟩),po ((Je (I:=I) (((s.getD i 0:Nat):Int) - 48) ⟨by omega,by omega⟩)),po (ha),pk (Az 3 (i:Int) 1 ⟨by omega,by omega⟩)]
 ·generalize dv s s.length=v
  exact rr [pk (Bf 9 3 s),pk (Aj 3 ((s.length:Nat):Int) ((s.length:Nat):Int))]
theorem KJ {s:List Nat}(hs:B8 s)(hl:s.length≤400):Sp Tryz.prog I 109 [cS s] (tfc true 84 ((Ji s:Int):Rat)):=by
 have lo:=P5 (I:=I) hs hl;have i0:Sp Tryz.prog I 69 [ci 0] (tfc true 84 ((dv s 0:Int):Rat)):=by
  rw[Aai];exact (Je (I:=I) 0 ⟨by omega,by omega⟩).rs (GB (by omega)).tv
 have lv:=JS hs (by omega)
 unfold Ji at lv ⊢;generalize hv:dv s s.length=v at *;by_cases h0:0 < s.length
 ·by_cases hn:BD s=true
  ·rw[if_pos hn] at lv ⊢
   have h45:decide (((s.getD 0 0:Nat):Int)=45)=true:=by unfold BD at hn;simp at hn ⊢;omega
   have hng:Sp Tryz.prog I 152 [fc true 84 (v:Rat)] (tfc true 84 ((-v:Int):Rat)):=by
    have:=Pb (I:=I) (c:=true) (k:=84) (p:=(v:Rat)) (by omega)
    rwa [←Rat.intCast_neg] at this
   exact sr 41 [po (i0),pl (lo),pk (Bf 9 3 s),pk (BN 3 ((s.length:Nat):Int) 0),pk (Dv 9 s 0 _ rfl h0 hs),pk (Jo 5 ((s.getD 0 0:Nat):Int) 45 true h45),po (hng)]
  ·rw[if_neg hn] at lv ⊢
   have h45:decide (((s.getD 0 0:Nat):Int)=45)=false:=by
    refine decide_eq_false fun h1=>hn ?_
    unfold BD;have:s.getD 0 0=45:=by omega
    rw[this];rfl
   exact sr 41 [po (i0),pl (lo),pk (Bf 9 3 s),pk (BN 3 ((s.length:Nat):Int) 0),pk (Dv 9 s 0 _ rfl h0 hs),pk (Jo 5 ((s.getD 0 0:Nat):Int) 45 false h45)]
 ·have hn : ¬ BD s=true:=fun h=>by
   rw[List.eq_nil_of_length_eq_zero (by omega:s.length=0)] at h
   cases h
  rw[if_neg hn] at lv ⊢;exact sr 41 [po (i0),pl (lo),pk (Bf 9 3 s),pk (Ao 3 ((s.length:Nat):Int) 0)]
end
section
variable {I:WInv}{c c':Bool}{k j:Nat}{p q:Rat}
def fcs (s:List Nat)(i a:Int):Go.Proofs.YtdgbealknnmkoaaGreatDoor.St:=⟨[(0,.cv (.one (.b (.lit (.string (AM s)))))),(2,.p 0 0),(3,.i a),(4,.i i)],[(0,some ⟨26,none,[.o false,.z,.o false,.z]⟩)],50⟩
theorem Pw {s:List Nat}{i:Nat}(hs:B8 s)(hl:s.length≤400)(hx:CU 47 s=some i):LoopTr Tryz.prog I 35 (Bj Tryz.prog 58 0) (fcs s ((0:Nat):Int) ((s.length:Nat):Int)) (.exit 0) (fcs s (i:Int) (i:Int)):=by
 obtain ⟨h1,h2,h3⟩:=GX hx;refine Ck (P:=Tryz.prog) (I:=I) (nt:=35) (c:=Bj Tryz.prog 58 0) (ex := .exit 0) (fun h=>by cases h) (fun i=>fcs s (i:Int) ((s.length:Nat):Int)) i (fun j hj => ?_) ?_
 ·have h47:decide (((s.getD j 0:Nat):Int)=47)=false:=decide_eq_false fun h=>h3 j hj (by omega)
  have hi:j < s.length:=by omega
  clear h1 h2 h3 hx hj;revert j;intro i h47 hi;exact rr [pk (Bf 9 3 s),pk (As 3 (i:Int) ((s.length:Nat):Int)),pk (Dv 9 s i _ rfl hi hs),pk (Jo 5 ((s.getD i 0:Nat):Int) 47 false h47),pk (Az 3 (i:Int) 1 ⟨by omega,by omega⟩)]
 ·have hi:=h1
  have h47:decide (((s.getD i 0:Nat):Int)=47)=true:=decide_eq_true (by omega)
  exact rr [pk (Bf 9 3 s),pk (As 3 (i:Int) ((s.length:Nat):Int)),pk (Dv 9 s i _ rfl hi hs),pk (Jo 5 ((s.getD i 0:Nat):Int) 47 true h47)]
theorem No {s:List Nat}(hs:B8 s)(hl:s.length≤400)(hx:CU 47 s=none):LoopTr Tryz.prog I 35 (Bj Tryz.prog 58 0) (fcs s ((0:Nat):Int) ((s.length:Nat):Int)) (.exit 0) (fcs s ((s.length:Nat):Int) ((s.length:Nat):Int)):=by
 have h3:=NZ hx;refine Ck (P:=Tryz.prog) (I:=I) (nt:=35) (c:=Bj Tryz.prog 58 0) (ex := .exit 0) (fun h=>by cases h) (fun i=>fcs s (i:Int) ((s.length:Nat):Int)) s.length (fun i hi => ?_) ?_
 ·have h47:decide (((s.getD i 0:Nat):Int)=47)=false:=decide_eq_false fun h=>h3 i hi (by omega)
  exact rr [pk (Bf 9 3 s),pk (As 3 (i:Int) ((s.length:Nat):Int)),pk (Dv 9 s i _ rfl hi hs),pk (Jo 5 ((s.getD i 0:Nat):Int) 47 false h47),pk (Az 3 (i:Int) 1 ⟨by omega,by omega⟩)]
 ·exact rr [pk (Bf 9 3 s),pk (Aj 3 ((s.length:Nat):Int) ((s.length:Nat):Int))]
theorem MA {s:List Nat}(hs:B8 s)(hl:s.length≤400):Sp Tryz.prog I 58 [cS s] (tfc true 84 (Rb s)):=by
 have hq:=ZZ hs hl;unfold Rb at hq ⊢;cases hx:CU 47 s with
 | some i =>
  rw[hx] at hq;simp only at hq ⊢;obtain ⟨h1,h2,h3⟩:=GX hx;have hd1:=KJ (I:=I) (hs.take i) (by rw[List.length_take];omega)
  have hd2:=KJ (I:=I) (hs.drop (i+1)) (by rw[List.length_drop];omega)
  have lo:=Pw (I:=I) hs hl hx;generalize ((Ji (s.take i):Int):Rat)=a at *;generalize ((Ji (s.drop (i+1)):Int):Rat)=b at *;have hv:Sp Tryz.prog I 68 [fc true 84 a,fc true 84 b] (tfc true 84 (a / b)):=((Acn (c:=true) (c':=true) (p:=a) (q:=b)).wk (args':=[fc true 84 a,fc true 84 b]) ⟨GB (by omega),GB (by omega),trivial⟩).rs (TY hq rfl).tv
  exact sr 35 [pk (Bf 9 3 s),pl (lo),pk (Tl 9 s i _ rfl (by omega)),po (hd1),pk (Bf 9 3 s),pk (As 3 (i:Int) ((s.length:Nat):Int)),pk (Az 3 (i:Int) 1 ⟨by omega,by omega⟩),pk (Zp 9 s (i+1) _ rfl (by omega)),po (hd2),po (hv)]
 | none =>
  simp only;have hd1:=KJ (I:=I) (hs.take s.length) (by rw[List.length_take];omega)
  have lo:=No (I:=I) hs hl hx;rw[show Ji (s.take s.length)=Ji s by rw[List.take_length]] at hd1
  generalize ((Ji s:Int):Rat)=a at *;exact sr 35 [pk (Bf 9 3 s),pl (lo),pk (Tl 9 s s.length _ rfl (by omega)),po (hd1),pk (Bf 9 3 s),pk (Aj 3 ((s.length:Nat):Int) ((s.length:Nat):Int))]
end
theorem Zc (k:Nat)(hk:0 < k)(rest:List It):ILe (zl++rest) (.b (.it (fF false k 0))::rest):=by
 intro N w g l h;obtain ⟨l1,r1,e1,h1,l2,r2,e2,h2,l3,r3,e3,h3,l4,r4,e4,h4,h5⟩:=h;have h1:l1=[_]:=h1;have h2:l2=[_]:=h2;have h3:l3=[_]:=h3;have h4:l4=[_]:=h4;subst h1 h2 h3 h4 e4 e3 e2 e1;exact ⟨[.bool false,.slice none 0 0,.bool false,.slice none 0 0],r4,rfl,⟨0,0,[.bool false,.slice none 0 0],[.bool false,.slice none 0 0],rfl,PJ N w,PJ N w,by rw[LI];rfl,hk,fun h=>by cases h⟩,h5⟩
abbrev chL (k n a b z:Int):CT := .ag [.i k,.i n,.o false,.z,.o false,.z,.i a,.i b,.i z]
theorem SW (j:Nat)(hj:0 < j)(k n a b z:Int):CTle (chL k n a b z) (chK false j ⟨k,n,0,a,b,z⟩) :=
 (ILe.cons XLe.refl (ILe.cons XLe.refl (Zc j hj _))).ag
section
variable {I:WInv}
theorem WR {bs:List Nat}(hl:bs.length≤2000000){k:Int}{u:Nat}(hT1:Sp Tryz.prog I 57 [.t (bI bs)] (.tu [ci k,ci (u:Int),cb false])):Sp Tryz.prog I 18 [.t (bI bs)] (.tu [chZ,ci 2]) :=
 sr 123 [po (hT1),pa]
theorem WQ {bs:List Nat}(hl:bs.length≤2000000){k:Int}{u:Nat}(hT1:Sp Tryz.prog I 57 [.t (bI bs)] (.tu [ci k,ci (u:Int),cb true]))(hk:k < 1):Sp Tryz.prog I 18 [.t (bI bs)] (.tu [chZ,ci 2]) :=
 sr 123 [po (hT1),pa,pk (As 3 k 1)]
theorem WP {bs:List Nat}(hl:bs.length≤2000000){k:Int}{u:Nat}(hT1:Sp Tryz.prog I 57 [.t (bI bs)] (.tu [ci k,ci (u:Int),cb true]))(hk1 : ¬ k < 1)(hk:3 < k):Sp Tryz.prog I 18 [.t (bI bs)] (.tu [chZ,ci 2]) :=
 sr 123 [po (hT1),pa,pk (Aj 3 k 1),pk (BN 3 k 3)]
theorem WO {bs:List Nat}(hl:bs.length≤2000000){k:Int}{u:Nat}(hT1:Sp Tryz.prog I 57 [.t (bI bs)] (.tu [ci k,ci (u:Int),cb true]))(hk1 : ¬ k < 1)(hk3 : ¬ 3 < k){n:Int}{v:Nat}(hu:u≤bs.length)(hT2:Sp Tryz.prog I 57 [.t (bI (bs.drop u))] (.tu [ci n,ci (v:Int),cb false])):Sp Tryz.prog I 18 [.t (bI bs)] (.tu [chZ,ci 2]) :=
 sr 123 [po (hT1),pa,pk (Aj 3 k 1),pk (Ao 3 k 3),pk (AE bs u _ rfl hu),po (hT2),pa]
theorem WN {bs:List Nat}(hl:bs.length≤2000000){k:Int}{u:Nat}(hT1:Sp Tryz.prog I 57 [.t (bI bs)] (.tu [ci k,ci (u:Int),cb true]))(hk1 : ¬ k < 1)(hk3 : ¬ 3 < k){n:Int}{v:Nat}(hu:u≤bs.length)(hT2:Sp Tryz.prog I 57 [.t (bI (bs.drop u))] (.tu [ci n,ci (v:Int),cb true])){a w:Nat}(ha:a≤4611686018427387904)(huv:u+v≤bs.length)(hT3:Sp Tryz.prog I 57 [.t (bI (bs.drop (u+v)))] (.tu [ci (a:Int),ci (w:Int),cb false])):Sp Tryz.prog I 18 [.t (bI bs)] (.tu [chZ,ci 2]) :=
 sr 123 [po (hT1),pa,pk (Aj 3 k 1),pk (Ao 3 k 3),pk (AE bs u _ rfl hu),po (hT2),pa,pk (Az 3 (u:Int) (v:Int) ⟨by omega,by omega⟩),pk (AE bs (u+v) _ rfl huv),po (hT3),pa]
theorem WM {bs:List Nat}(hl:bs.length≤2000000){k:Int}{u:Nat}(hT1:Sp Tryz.prog I 57 [.t (bI bs)] (.tu [ci k,ci (u:Int),cb true]))(hk1 : ¬ k < 1)(hk3 : ¬ 3 < k){n:Int}{v:Nat}(hu:u≤bs.length)(hT2:Sp Tryz.prog I 57 [.t (bI (bs.drop u))] (.tu [ci n,ci (v:Int),cb true])){a w:Nat}(ha:a≤4611686018427387904)(huv:u+v≤bs.length)(hT3:Sp Tryz.prog I 57 [.t (bI (bs.drop (u+v)))] (.tu [ci (a:Int),ci (w:Int),cb true]))(hw:w≤(bs.drop (u+v)).length)(hk:k=1){ln:Int}(hln:ln=(((bs.drop (u+v)).drop w).length:Int))(h6:ln≠(a:Int)):Sp Tryz.prog I 18 [.t (bI bs)] (.tu [chZ,ci 2]) :=
 sr 123 [po (hT1),pa,pk (Aj 3 k 1),pk (Ao 3 k 3),pk (AE bs u _ rfl hu),po (hT2),pa,pk (Az 3 (u:Int) (v:Int) ⟨by omega,by omega⟩),pk (AE bs (u+v) _ rfl huv),po (hT3),pa,pk (AE (bs.drop (u+v)) w _ rfl hw),pk (Ak 3 k 1),pk (MS ((bs.drop (u+v)).drop w) 3 ln hln),pk (AR 3 ln (a:Int))]
theorem WL {bs:List Nat}(hl:bs.length≤2000000){k:Int}{u:Nat}(hT1:Sp Tryz.prog I 57 [.t (bI bs)] (.tu [ci k,ci (u:Int),cb true]))(hk1 : ¬ k < 1)(hk3 : ¬ 3 < k){n:Int}{v:Nat}(hu:u≤bs.length)(hT2:Sp Tryz.prog I 57 [.t (bI (bs.drop u))] (.tu [ci n,ci (v:Int),cb true])){a w:Nat}(ha:a≤4611686018427387904)(huv:u+v≤bs.length)(hT3:Sp Tryz.prog I 57 [.t (bI (bs.drop (u+v)))] (.tu [ci (a:Int),ci (w:Int),cb true]))(hw:w≤(bs.drop (u+v)).length)(hk:k=1){ln:Int}(hln:ln=(((bs.drop (u+v)).drop w).length:Int))(h6:ln=(a:Int))(h7:400 < (a:Int)):Sp Tryz.prog I 18 [.t (bI bs)] (.tu [chZ,ci 2]) :=
 sr 123 [po (hT1),pa,pk (Aj 3 k 1),pk (Ao 3 k 3),pk (AE bs u _ rfl hu),po (hT2),pa,pk (Az 3 (u:Int) (v:Int) ⟨by omega,by omega⟩),pk (AE bs (u+v) _ rfl huv),po (hT3),pa,pk (AE (bs.drop (u+v)) w _ rfl hw),pk (Ak 3 k 1),pk (MS ((bs.drop (u+v)).drop w) 3 ln hln),pk (At 3 ln (a:Int)),pk (BN 3 (a:Int) 400)]
theorem WK {bs:List Nat}(hl:bs.length≤2000000){k:Int}{u:Nat}(hT1:Sp Tryz.prog I 57 [.t (bI bs)] (.tu [ci k,ci (u:Int),cb true]))(hk1 : ¬ k < 1)(hk3 : ¬ 3 < k){n:Int}{v:Nat}(hu:u≤bs.length)(hT2:Sp Tryz.prog I 57 [.t (bI (bs.drop u))] (.tu [ci n,ci (v:Int),cb true])){a w:Nat}(ha:a≤4611686018427387904)(huv:u+v≤bs.length)(hT3:Sp Tryz.prog I 57 [.t (bI (bs.drop (u+v)))] (.tu [ci (a:Int),ci (w:Int),cb true]))(hw:w≤(bs.drop (u+v)).length)(hk:k=2){c:Int}{w2:Nat}(hT4:Sp Tryz.prog I 57 [.t (bI ((bs.drop (u+v)).drop w))] (.tu [ci c,ci (w2:Int),cb false])):Sp Tryz.prog I 18 [.t (bI bs)] (.tu [chZ,ci 2]) :=
 sr 123 [po (hT1),pa,pk (Aj 3 k 1),pk (Ao 3 k 3),pk (AE bs u _ rfl hu),po (hT2),pa,pk (Az 3 (u:Int) (v:Int) ⟨by omega,by omega⟩),pk (AE bs (u+v) _ rfl huv),po (hT3),pa,pk (AE (bs.drop (u+v)) w _ rfl hw),pk (Af 3 k 1),pk (Ak 3 k 2),po (hT4),pa]
theorem Xd {bs:List Nat}(hl:bs.length≤2000000){k:Int}{u:Nat}(hT1:Sp Tryz.prog I 57 [.t (bI bs)] (.tu [ci k,ci (u:Int),cb true]))(hk1 : ¬ k < 1)(hk3 : ¬ 3 < k){n:Int}{v:Nat}(hu:u≤bs.length)(hT2:Sp Tryz.prog I 57 [.t (bI (bs.drop u))] (.tu [ci n,ci (v:Int),cb true])){a w:Nat}(ha:a≤4611686018427387904)(huv:u+v≤bs.length)(hT3:Sp Tryz.prog I 57 [.t (bI (bs.drop (u+v)))] (.tu [ci (a:Int),ci (w:Int),cb true]))(hw:w≤(bs.drop (u+v)).length)(hk:k=1){ln:Int}(hln:ln=(((bs.drop (u+v)).drop w).length:Int))(h6:ln=(a:Int))(h7 : ¬ 400 < (a:Int)){q:Rat}(hF:Sp Tryz.prog I 58 [cS ((bs.drop (u+v)).drop w)] (tfc true 84 q)){cc:List Nat}{e:Int}(he:e≠0)(hE:Sp Tryz.prog I 14 [chK true 84 ⟨k,n,q,0,0,0⟩] (.tu [.t (bI cc),ci e])):Sp Tryz.prog I 18 [.t (bI bs)] (.tu [chZ,ci 2]) :=
 sr 123 [po (hT1),pa,pk (Aj 3 k 1),pk (Ao 3 k 3),pk (AE bs u _ rfl hu),po (hT2),pa,pk (Az 3 (u:Int) (v:Int) ⟨by omega,by omega⟩),pk (AE bs (u+v) _ rfl huv),po (hT3),pa,pk (AE (bs.drop (u+v)) w _ rfl hw),pk (Ak 3 k 1),pk (MS ((bs.drop (u+v)).drop w) 3 ln hln),pk (At 3 ln (a:Int)),pk (Ao 3 (a:Int) 400),pk (Gi ((bs.drop (u+v)).drop w)),po (hF),po (hE),pk (AR 32 e 0)]
theorem Xc {bs:List Nat}(hl:bs.length≤2000000){k:Int}{u:Nat}(hT1:Sp Tryz.prog I 57 [.t (bI bs)] (.tu [ci k,ci (u:Int),cb true]))(hk1 : ¬ k < 1)(hk3 : ¬ 3 < k){n:Int}{v:Nat}(hu:u≤bs.length)(hT2:Sp Tryz.prog I 57 [.t (bI (bs.drop u))] (.tu [ci n,ci (v:Int),cb true])){a w:Nat}(ha:a≤4611686018427387904)(huv:u+v≤bs.length)(hT3:Sp Tryz.prog I 57 [.t (bI (bs.drop (u+v)))] (.tu [ci (a:Int),ci (w:Int),cb true]))(hw:w≤(bs.drop (u+v)).length)(hk:k=1){ln:Int}(hln:ln=(((bs.drop (u+v)).drop w).length:Int))(h6:ln=(a:Int))(h7 : ¬ 400 < (a:Int)){q:Rat}(hF:Sp Tryz.prog I 58 [cS ((bs.drop (u+v)).drop w)] (tfc true 84 q)){cc:List Nat}(hE:Sp Tryz.prog I 14 [chK true 84 ⟨k,n,q,0,0,0⟩] (.tu [.t (bI cc),ci 0]))(hQ:Sp Tryz.prog I 59 [.t (bI cc),.t (bI bs)] (lb false)):Sp Tryz.prog I 18 [.t (bI bs)] (.tu [chZ,ci 2]) :=
 sr 123 [po (hT1),pa,pk (Aj 3 k 1),pk (Ao 3 k 3),pk (AE bs u _ rfl hu),po (hT2),pa,pk (Az 3 (u:Int) (v:Int) ⟨by omega,by omega⟩),pk (AE bs (u+v) _ rfl huv),po (hT3),pa,pk (AE (bs.drop (u+v)) w _ rfl hw),pk (Ak 3 k 1),pk (MS ((bs.drop (u+v)).drop w) 3 ln hln),pk (At 3 ln (a:Int)),pk (Ao 3 (a:Int) 400),pk (Gi ((bs.drop (u+v)).drop w)),po (hF),po (hE),pa,po (hQ),pa]
theorem Xb {bs:List Nat}(hl:bs.length≤2000000){k:Int}{u:Nat}(hT1:Sp Tryz.prog I 57 [.t (bI bs)] (.tu [ci k,ci (u:Int),cb true]))(hk1 : ¬ k < 1)(hk3 : ¬ 3 < k){n:Int}{v:Nat}(hu:u≤bs.length)(hT2:Sp Tryz.prog I 57 [.t (bI (bs.drop u))] (.tu [ci n,ci (v:Int),cb true])){a w:Nat}(ha:a≤4611686018427387904)(huv:u+v≤bs.length)(hT3:Sp Tryz.prog I 57 [.t (bI (bs.drop (u+v)))] (.tu [ci (a:Int),ci (w:Int),cb true]))(hw:w≤(bs.drop (u+v)).length)(hk:k=1){ln:Int}(hln:ln=(((bs.drop (u+v)).drop w).length:Int))(h6:ln=(a:Int))(h7 : ¬ 400 < (a:Int)){q:Rat}(hF:Sp Tryz.prog I 58 [cS ((bs.drop (u+v)).drop w)] (tfc true 84 q)){cc:List Nat}(hE:Sp Tryz.prog I 14 [chK true 84 ⟨k,n,q,0,0,0⟩] (.tu [.t (bI cc),ci 0]))(hQ:Sp Tryz.prog I 59 [.t (bI cc),.t (bI bs)] (lb true)):Sp Tryz.prog I 18 [.t (bI bs)] (.tu [chK true 84 ⟨k,n,q,0,0,0⟩,ci 0]) :=
 sr 123 [po (hT1),pa,pk (Aj 3 k 1),pk (Ao 3 k 3),pk (AE bs u _ rfl hu),po (hT2),pa,pk (Az 3 (u:Int) (v:Int) ⟨by omega,by omega⟩),pk (AE bs (u+v) _ rfl huv),po (hT3),pa,pk (AE (bs.drop (u+v)) w _ rfl hw),pk (Ak 3 k 1),pk (MS ((bs.drop (u+v)).drop w) 3 ln hln),pk (At 3 ln (a:Int)),pk (Ao 3 (a:Int) 400),pk (Gi ((bs.drop (u+v)).drop w)),po (hF),po (hE),pa,po (hQ),pa]
theorem Xa {bs:List Nat}(hl:bs.length≤2000000){k:Int}{u:Nat}(hT1:Sp Tryz.prog I 57 [.t (bI bs)] (.tu [ci k,ci (u:Int),cb true]))(hk1 : ¬ k < 1)(hk3 : ¬ 3 < k){n:Int}{v:Nat}(hu:u≤bs.length)(hT2:Sp Tryz.prog I 57 [.t (bI (bs.drop u))] (.tu [ci n,ci (v:Int),cb true])){a w:Nat}(ha:a≤4611686018427387904)(huv:u+v≤bs.length)(hT3:Sp Tryz.prog I 57 [.t (bI (bs.drop (u+v)))] (.tu [ci (a:Int),ci (w:Int),cb true]))(hw:w≤(bs.drop (u+v)).length)(hk:k=2){c:Int}{w2:Nat}(hT4:Sp Tryz.prog I 57 [.t (bI ((bs.drop (u+v)).drop w))] (.tu [ci c,ci (w2:Int),cb true])){cc:List Nat}{e:Int}(he:e≠0)(hE:Sp Tryz.prog I 14 [chL k n (a:Int) c 0] (.tu [.t (bI cc),ci e])):Sp Tryz.prog I 18 [.t (bI bs)] (.tu [chZ,ci 2]) :=
 sr 123 [po (hT1),pa,pk (Aj 3 k 1),pk (Ao 3 k 3),pk (AE bs u _ rfl hu),po (hT2),pa,pk (Az 3 (u:Int) (v:Int) ⟨by omega,by omega⟩),pk (AE bs (u+v) _ rfl huv),po (hT3),pa,pk (AE (bs.drop (u+v)) w _ rfl hw),pk (Af 3 k 1),pk (Ak 3 k 2),po (hT4),pa,po (hE),pk (AR 32 e 0)]
theorem WZ {bs:List Nat}(hl:bs.length≤2000000){k:Int}{u:Nat}(hT1:Sp Tryz.prog I 57 [.t (bI bs)] (.tu [ci k,ci (u:Int),cb true]))(hk1 : ¬ k < 1)(hk3 : ¬ 3 < k){n:Int}{v:Nat}(hu:u≤bs.length)(hT2:Sp Tryz.prog I 57 [.t (bI (bs.drop u))] (.tu [ci n,ci (v:Int),cb true])){a w:Nat}(ha:a≤4611686018427387904)(huv:u+v≤bs.length)(hT3:Sp Tryz.prog I 57 [.t (bI (bs.drop (u+v)))] (.tu [ci (a:Int),ci (w:Int),cb true]))(hw:w≤(bs.drop (u+v)).length)(hk:k=2){c:Int}{w2:Nat}(hT4:Sp Tryz.prog I 57 [.t (bI ((bs.drop (u+v)).drop w))] (.tu [ci c,ci (w2:Int),cb true])){cc:List Nat}(hE:Sp Tryz.prog I 14 [chL k n (a:Int) c 0] (.tu [.t (bI cc),ci 0]))(hQ:Sp Tryz.prog I 59 [.t (bI cc),.t (bI bs)] (lb false)):Sp Tryz.prog I 18 [.t (bI bs)] (.tu [chZ,ci 2]) :=
 sr 123 [po (hT1),pa,pk (Aj 3 k 1),pk (Ao 3 k 3),pk (AE bs u _ rfl hu),po (hT2),pa,pk (Az 3 (u:Int) (v:Int) ⟨by omega,by omega⟩),pk (AE bs (u+v) _ rfl huv),po (hT3),pa,pk (AE (bs.drop (u+v)) w _ rfl hw),pk (Af 3 k 1),pk (Ak 3 k 2),po (hT4),pa,po (hE),pa,po (hQ),pa]
theorem WY {bs:List Nat}(hl:bs.length≤2000000){k:Int}{u:Nat}(hT1:Sp Tryz.prog I 57 [.t (bI bs)] (.tu [ci k,ci (u:Int),cb true]))(hk1 : ¬ k < 1)(hk3 : ¬ 3 < k){n:Int}{v:Nat}(hu:u≤bs.length)(hT2:Sp Tryz.prog I 57 [.t (bI (bs.drop u))] (.tu [ci n,ci (v:Int),cb true])){a w:Nat}(ha:a≤4611686018427387904)(huv:u+v≤bs.length)(hT3:Sp Tryz.prog I 57 [.t (bI (bs.drop (u+v)))] (.tu [ci (a:Int),ci (w:Int),cb true]))(hw:w≤(bs.drop (u+v)).length)(hk:k=2){c:Int}{w2:Nat}(hT4:Sp Tryz.prog I 57 [.t (bI ((bs.drop (u+v)).drop w))] (.tu [ci c,ci (w2:Int),cb true])){cc:List Nat}(hE:Sp Tryz.prog I 14 [chL k n (a:Int) c 0] (.tu [.t (bI cc),ci 0]))(hQ:Sp Tryz.prog I 59 [.t (bI cc),.t (bI bs)] (lb true)):Sp Tryz.prog I 18 [.t (bI bs)] (.tu [chL k n (a:Int) c 0,ci 0]) :=
 sr 123 [po (hT1),pa,pk (Aj 3 k 1),pk (Ao 3 k 3),pk (AE bs u _ rfl hu),po (hT2),pa,pk (Az 3 (u:Int) (v:Int) ⟨by omega,by omega⟩),pk (AE bs (u+v) _ rfl huv),po (hT3),pa,pk (AE (bs.drop (u+v)) w _ rfl hw),pk (Af 3 k 1),pk (Ak 3 k 2),po (hT4),pa,po (hE),pa,po (hQ),pa]
theorem WX {bs:List Nat}(hl:bs.length≤2000000){k:Int}{u:Nat}(hT1:Sp Tryz.prog I 57 [.t (bI bs)] (.tu [ci k,ci (u:Int),cb true]))(hk1 : ¬ k < 1)(hk3 : ¬ 3 < k){n:Int}{v:Nat}(hu:u≤bs.length)(hT2:Sp Tryz.prog I 57 [.t (bI (bs.drop u))] (.tu [ci n,ci (v:Int),cb true])){a w:Nat}(ha:a≤4611686018427387904)(huv:u+v≤bs.length)(hT3:Sp Tryz.prog I 57 [.t (bI (bs.drop (u+v)))] (.tu [ci (a:Int),ci (w:Int),cb true]))(hw:w≤(bs.drop (u+v)).length)(hk:k=3){y r:Int}(hy:Be Tryz.prog (.bin .quo 3) [li (a:Int),li 2] (li y))(hr:Be Tryz.prog (.bin .rem 3) [li (a:Int),li 2] (li r))(h1:r≠1){cc:List Nat}{e:Int}(he:e≠0)(hE:Sp Tryz.prog I 14 [chL k n 0 0 y] (.tu [.t (bI cc),ci e])):Sp Tryz.prog I 18 [.t (bI bs)] (.tu [chZ,ci 2]) :=
 sr 123 [po (hT1),pa,pk (Aj 3 k 1),pk (Ao 3 k 3),pk (AE bs u _ rfl hu),po (hT2),pa,pk (Az 3 (u:Int) (v:Int) ⟨by omega,by omega⟩),pk (AE bs (u+v) _ rfl huv),po (hT3),pa,pk (AE (bs.drop (u+v)) w _ rfl hw),pk (Af 3 k 1),pk (Af 3 k 2),pk (hy),pk (hr),pk (Af 3 r 1),po (hE),pk (AR 32 e 0)]
theorem WW {bs:List Nat}(hl:bs.length≤2000000){k:Int}{u:Nat}(hT1:Sp Tryz.prog I 57 [.t (bI bs)] (.tu [ci k,ci (u:Int),cb true]))(hk1 : ¬ k < 1)(hk3 : ¬ 3 < k){n:Int}{v:Nat}(hu:u≤bs.length)(hT2:Sp Tryz.prog I 57 [.t (bI (bs.drop u))] (.tu [ci n,ci (v:Int),cb true])){a w:Nat}(ha:a≤4611686018427387904)(huv:u+v≤bs.length)(hT3:Sp Tryz.prog I 57 [.t (bI (bs.drop (u+v)))] (.tu [ci (a:Int),ci (w:Int),cb true]))(hw:w≤(bs.drop (u+v)).length)(hk:k=3){y r:Int}(hy:Be Tryz.prog (.bin .quo 3) [li (a:Int),li 2] (li y))(hr:Be Tryz.prog (.bin .rem 3) [li (a:Int),li 2] (li r))(h1:r≠1){cc:List Nat}(hE:Sp Tryz.prog I 14 [chL k n 0 0 y] (.tu [.t (bI cc),ci 0]))(hQ:Sp Tryz.prog I 59 [.t (bI cc),.t (bI bs)] (lb false)):Sp Tryz.prog I 18 [.t (bI bs)] (.tu [chZ,ci 2]) :=
 sr 123 [po (hT1),pa,pk (Aj 3 k 1),pk (Ao 3 k 3),pk (AE bs u _ rfl hu),po (hT2),pa,pk (Az 3 (u:Int) (v:Int) ⟨by omega,by omega⟩),pk (AE bs (u+v) _ rfl huv),po (hT3),pa,pk (AE (bs.drop (u+v)) w _ rfl hw),pk (Af 3 k 1),pk (Af 3 k 2),pk (hy),pk (hr),pk (Af 3 r 1),po (hE),pa,po (hQ),pa]
theorem WV {bs:List Nat}(hl:bs.length≤2000000){k:Int}{u:Nat}(hT1:Sp Tryz.prog I 57 [.t (bI bs)] (.tu [ci k,ci (u:Int),cb true]))(hk1 : ¬ k < 1)(hk3 : ¬ 3 < k){n:Int}{v:Nat}(hu:u≤bs.length)(hT2:Sp Tryz.prog I 57 [.t (bI (bs.drop u))] (.tu [ci n,ci (v:Int),cb true])){a w:Nat}(ha:a≤4611686018427387904)(huv:u+v≤bs.length)(hT3:Sp Tryz.prog I 57 [.t (bI (bs.drop (u+v)))] (.tu [ci (a:Int),ci (w:Int),cb true]))(hw:w≤(bs.drop (u+v)).length)(hk:k=3){y r:Int}(hy:Be Tryz.prog (.bin .quo 3) [li (a:Int),li 2] (li y))(hr:Be Tryz.prog (.bin .rem 3) [li (a:Int),li 2] (li r))(h1:r≠1){cc:List Nat}(hE:Sp Tryz.prog I 14 [chL k n 0 0 y] (.tu [.t (bI cc),ci 0]))(hQ:Sp Tryz.prog I 59 [.t (bI cc),.t (bI bs)] (lb true)):Sp Tryz.prog I 18 [.t (bI bs)] (.tu [chL k n 0 0 y,ci 0]) :=
 sr 123 [po (hT1),pa,pk (Aj 3 k 1),pk (Ao 3 k 3),pk (AE bs u _ rfl hu),po (hT2),pa,pk (Az 3 (u:Int) (v:Int) ⟨by omega,by omega⟩),pk (AE bs (u+v) _ rfl huv),po (hT3),pa,pk (AE (bs.drop (u+v)) w _ rfl hw),pk (Af 3 k 1),pk (Af 3 k 2),pk (hy),pk (hr),pk (Af 3 r 1),po (hE),pa,po (hQ),pa]
theorem WU {bs:List Nat}(hl:bs.length≤2000000){k:Int}{u:Nat}(hT1:Sp Tryz.prog I 57 [.t (bI bs)] (.tu [ci k,ci (u:Int),cb true]))(hk1 : ¬ k < 1)(hk3 : ¬ 3 < k){n:Int}{v:Nat}(hu:u≤bs.length)(hT2:Sp Tryz.prog I 57 [.t (bI (bs.drop u))] (.tu [ci n,ci (v:Int),cb true])){a w:Nat}(ha:a≤4611686018427387904)(huv:u+v≤bs.length)(hT3:Sp Tryz.prog I 57 [.t (bI (bs.drop (u+v)))] (.tu [ci (a:Int),ci (w:Int),cb true]))(hw:w≤(bs.drop (u+v)).length)(hk:k=3){y r:Int}(hy:Be Tryz.prog (.bin .quo 3) [li (a:Int),li 2] (li y))(hr:Be Tryz.prog (.bin .rem 3) [li (a:Int),li 2] (li r))(h1:r=1){z:Int}(hz:Be Tryz.prog (.bin .quo 3) [li (-((a:Int)+1)),li 2] (li z)){cc:List Nat}{e:Int}(he:e≠0)(hE:Sp Tryz.prog I 14 [chL k n 0 0 z] (.tu [.t (bI cc),ci e])):Sp Tryz.prog I 18 [.t (bI bs)] (.tu [chZ,ci 2]) :=
 sr 123 [po (hT1),pa,pk (Aj 3 k 1),pk (Ao 3 k 3),pk (AE bs u _ rfl hu),po (hT2),pa,pk (Az 3 (u:Int) (v:Int) ⟨by omega,by omega⟩),pk (AE bs (u+v) _ rfl huv),po (hT3),pa,pk (AE (bs.drop (u+v)) w _ rfl hw),pk (Af 3 k 1),pk (Af 3 k 2),pk (hy),pk (hr),pk (Ak 3 r 1),pk (Az 3 (a:Int) 1 ⟨by omega,by omega⟩),pk (Tf ((a:Int)+1) ⟨by omega,by omega⟩),pk (hz),po (hE),pk (AR 32 e 0)]
theorem WT {bs:List Nat}(hl:bs.length≤2000000){k:Int}{u:Nat}(hT1:Sp Tryz.prog I 57 [.t (bI bs)] (.tu [ci k,ci (u:Int),cb true]))(hk1 : ¬ k < 1)(hk3 : ¬ 3 < k){n:Int}{v:Nat}(hu:u≤bs.length)(hT2:Sp Tryz.prog I 57 [.t (bI (bs.drop u))] (.tu [ci n,ci (v:Int),cb true])){a w:Nat}(ha:a≤4611686018427387904)(huv:u+v≤bs.length)(hT3:Sp Tryz.prog I 57 [.t (bI (bs.drop (u+v)))] (.tu [ci (a:Int),ci (w:Int),cb true]))(hw:w≤(bs.drop (u+v)).length)(hk:k=3){y r:Int}(hy:Be Tryz.prog (.bin .quo 3) [li (a:Int),li 2] (li y))(hr:Be Tryz.prog (.bin .rem 3) [li (a:Int),li 2] (li r))(h1:r=1){z:Int}(hz:Be Tryz.prog (.bin .quo 3) [li (-((a:Int)+1)),li 2] (li z)){cc:List Nat}(hE:Sp Tryz.prog I 14 [chL k n 0 0 z] (.tu [.t (bI cc),ci 0]))(hQ:Sp Tryz.prog I 59 [.t (bI cc),.t (bI bs)] (lb false)):Sp Tryz.prog I 18 [.t (bI bs)] (.tu [chZ,ci 2]) :=
 sr 123 [po (hT1),pa,pk (Aj 3 k 1),pk (Ao 3 k 3),pk (AE bs u _ rfl hu),po (hT2),pa,pk (Az 3 (u:Int) (v:Int) ⟨by omega,by omega⟩),pk (AE bs (u+v) _ rfl huv),po (hT3),pa,pk (AE (bs.drop (u+v)) w _ rfl hw),pk (Af 3 k 1),pk (Af 3 k 2),pk (hy),pk (hr),pk (Ak 3 r 1),pk (Az 3 (a:Int) 1 ⟨by omega,by omega⟩),pk (Tf ((a:Int)+1) ⟨by omega,by omega⟩),pk (hz),po (hE),pa,po (hQ),pa]
theorem WS {bs:List Nat}(hl:bs.length≤2000000){k:Int}{u:Nat}(hT1:Sp Tryz.prog I 57 [.t (bI bs)] (.tu [ci k,ci (u:Int),cb true]))(hk1 : ¬ k < 1)(hk3 : ¬ 3 < k){n:Int}{v:Nat}(hu:u≤bs.length)(hT2:Sp Tryz.prog I 57 [.t (bI (bs.drop u))] (.tu [ci n,ci (v:Int),cb true])){a w:Nat}(ha:a≤4611686018427387904)(huv:u+v≤bs.length)(hT3:Sp Tryz.prog I 57 [.t (bI (bs.drop (u+v)))] (.tu [ci (a:Int),ci (w:Int),cb true]))(hw:w≤(bs.drop (u+v)).length)(hk:k=3){y r:Int}(hy:Be Tryz.prog (.bin .quo 3) [li (a:Int),li 2] (li y))(hr:Be Tryz.prog (.bin .rem 3) [li (a:Int),li 2] (li r))(h1:r=1){z:Int}(hz:Be Tryz.prog (.bin .quo 3) [li (-((a:Int)+1)),li 2] (li z)){cc:List Nat}(hE:Sp Tryz.prog I 14 [chL k n 0 0 z] (.tu [.t (bI cc),ci 0]))(hQ:Sp Tryz.prog I 59 [.t (bI cc),.t (bI bs)] (lb true)):Sp Tryz.prog I 18 [.t (bI bs)] (.tu [chL k n 0 0 z,ci 0]) :=
 sr 123 [po (hT1),pa,pk (Aj 3 k 1),pk (Ao 3 k 3),pk (AE bs u _ rfl hu),po (hT2),pa,pk (Az 3 (u:Int) (v:Int) ⟨by omega,by omega⟩),pk (AE bs (u+v) _ rfl huv),po (hT3),pa,pk (AE (bs.drop (u+v)) w _ rfl hw),pk (Af 3 k 1),pk (Af 3 k 2),pk (hy),pk (hr),pk (Ak 3 r 1),pk (Az 3 (a:Int) 1 ⟨by omega,by omega⟩),pk (Tf ((a:Int)+1) ⟨by omega,by omega⟩),pk (hz),po (hE),pa,po (hQ),pa]
end
theorem Ada {c:Bool}{j k:Nat}{q:Rat}(h:Lq q j):XLe (.b (.it (fF true k q))) (.b (.it (fF c j q))):=by
 intro N w g l hl;have hv:(fc true k q).sem N w g (.agg l.toArray):=⟨l,rfl,l,[],(List.append_nil l).symm,hl,rfl⟩;obtain ⟨vs,e,l1,l2,e2,h1,h2⟩:=XW (c:=true) (c':=c) (k:=j) (k':=j) (q:=q) (fun _=>rfl) (Nat.le_refl _) rfl N w g _ (TY h rfl N w g _ hv)
 have h2:l2=[]:=h2;injection e with e;have e:=congrArg Array.toList e;simp only at e;rw[e,e2,h2,List.append_nil];exact h1
theorem YF {c:Bool}{j k:Nat}{x:Ch}(h:Lq x.q j):CTle (chK true k x) (chK c j x):=(ILe.cons XLe.refl (ILe.cons XLe.refl (ILe.cons (Ada h) ILe.refl))).ag
section
variable {I:WInv}
theorem Vc (a:Nat)(ha:a≤4611686018427387904):Be Tryz.prog (.bin .quo 3) [li (a:Int),li 2] (li ((a / 2:Nat):Int)):=by
 have e:(a:Int).tdiv 2=((a / 2:Nat):Int):=by rw[Int.tdiv_eq_ediv_of_nonneg (by omega)];omega
 have:=MV (P:=Tryz.prog) 3 (a:Int) 2 (by omega) (by rw[e];exact ⟨by omega,by omega⟩)
 rwa [e] at this
theorem Xk (a:Nat):Be Tryz.prog (.bin .rem 3) [li (a:Int),li 2] (li ((a % 2:Nat):Int)):=by
 have e:(a:Int).tmod 2=((a % 2:Nat):Int):=by rw[Int.tmod_eq_emod_of_nonneg (by omega)];omega
 have:=DX (P:=Tryz.prog) 3 (a:Int) 2 (by omega)
 rwa [e] at this
theorem AbD (a:Nat)(ha:a≤4611686018427387904)(h:a % 2=1):Be Tryz.prog (.bin .quo 3) [li (-((a:Int)+1)),li 2] (li (-((a / 2:Nat)+1:Int))):=by
 have e:(-((a:Int)+1)).tdiv 2 = -((a / 2:Nat)+1:Int):=by rw[Int.neg_tdiv,Int.tdiv_eq_ediv_of_nonneg (by omega)];omega
 have:=MV (P:=Tryz.prog) 3 (-((a:Int)+1)) 2 (by omega) (by rw[e];exact ⟨by omega,by omega⟩)
 rwa [e] at this
theorem SV {j:Nat}(hj:0 < j){k n a b z:Int}{f:FuncId}{args:List CT}{e:Int}(h:Sp Tryz.prog I f args (.tu [chL k n a b z,ci e])):Sp Tryz.prog I f args (.tu [chK false j ⟨k,n,0,a,b,z⟩,ci e]):=h.rs (KS ⟨SW j hj k n a b z,CTle.refl,trivial⟩)
theorem Qs (k n a b z:Int):Sp Tryz.prog I 14 [chL k n a b z] (.tu [.t (bI (Bb ⟨k,n,0,a,b,z⟩).1),ci (Bb ⟨k,n,0,a,b,z⟩).2]):=Sp.wk (GR (I:=I) (c:=false) (k:=84) ⟨k,n,0,a,b,z⟩ (by omega)).1 ⟨SW 84 (by omega) k n a b z,trivial⟩
theorem GD {n:Nat}{r:List Nat}:(Ac n++r).drop (Ac n).length=r:=List.drop_left
theorem Mk {j:Nat}{y:Ch}{b:List Nat}(hy:Bb y=(b,0))(hj:Lq y.q j):Sp Tryz.prog I 18 [.t (bI b)] (.tu [chK false j y,ci 0]):=by
 have hb:B8 b:=by have:=Ef y;rwa [hy] at this
 have hlb:b.length≤500:=by have:=EF y;rwa [hy] at this
 have hQ:=WC (I:=I) (xs:=b) (ys:=b) true (decide_eq_true rfl) hb hb;have hT1:=Cz (I:=I) hb;obtain ⟨n,hn,e1,h1⟩:=GW hy;have main : ∀ (kd:Nat) (r2:List Nat),(kd=1∨kd=2∨kd=3)→b=Ac kd++(Ac n++r2)→AZ b=(kd,(Ac kd).length,0)∧(Ac kd).length≤b.length∧AZ (b.drop (Ac kd).length)=(n,(Ac n).length,0)∧(Ac kd).length+(Ac n).length≤b.length∧b.drop ((Ac kd).length+(Ac n).length)=r2:=by
  intro kd r2 hk e;have hk:kd≤4611686018427387904:=by omega
  subst e;refine ⟨Dd kd _ hk,by simp,?_,by simp only[List.length_append] <;> omega,?_⟩
  ·rw[GD,Dd n _ (by omega)]
  ·rw[←List.drop_drop,GD,GD]
 rcases h1 with ⟨ey,hl,h1⟩ | ⟨a,c,ha,hc,ey,h1⟩ | ⟨ey,hz,h1⟩
 ·obtain ⟨d1,d2,d3,d4,d5⟩:=main 1 _ (.inl rfl) h1
  have hT2:=Cz (I:=I) (hb.drop (Ac 1).length);have hT3:=Cz (I:=I) (hb.drop ((Ac 1).length+(Ac n).length));rw[d1] at hT1;rw[d3] at hT2;have d6:=Dd (BK y.q).length (BK y.q) (by omega)
  rw[d5,d6,←d5] at hT3;have d7:(b.drop ((Ac 1).length+(Ac n).length)).drop (Ac (BK y.q).length).length=BK y.q:=by rw[d5,GD]
  have hF:=MA (I:=I) (JN y.q) hl;rw[XM] at hF;have hE:=(GR (I:=I) (c:=true) (k:=84) y (by omega)).1
  rw[hy] at hE;rw[ey] at hE ⊢;rw[←d7] at hF;refine (Xb (by omega) hT1 (by omega) (by omega) d2 hT2 (by omega) d4 hT3 (by rw[d5];simp) rfl (ln:=((BK y.q).length:Int)) (by rw[d7]) rfl (by omega) hF hE hQ).rs (KS ⟨YF hj,CTle.refl,trivial⟩)
 ·obtain ⟨d1,d2,d3,d4,d5⟩:=main 2 _ (.inr (.inl rfl)) h1
  have hT2:=Cz (I:=I) (hb.drop (Ac 2).length);have hT3:=Cz (I:=I) (hb.drop ((Ac 2).length+(Ac n).length));rw[d1] at hT1;rw[d3] at hT2;have d6:=Dd a (Ac c) (by omega)
  rw[d5,d6,←d5] at hT3;have d7:(b.drop ((Ac 2).length+(Ac n).length)).drop (Ac a).length=Ac c:=by rw[d5,GD]
  have hT4:=Cz (I:=I) ((hb.drop ((Ac 2).length+(Ac n).length)).drop (Ac a).length);have d8:=Dd c [] (by omega)
  rw[List.append_nil] at d8;rw[d7,d8,←d7] at hT4;have hE:=Qs (I:=I) 2 (n:Int) (a:Int) (c:Int) 0;rw[←ey,hy] at hE;rw[ey];exact SV hj.k0 (WY (by omega) hT1 (by omega) (by omega) d2 hT2 (by omega) d4 hT3 (by rw[d5];simp) rfl hT4 hE hQ)
 ·have hc:=Df hz
  obtain ⟨d1,d2,d3,d4,d5⟩:=main 3 _ (.inr (.inr rfl)) h1;have hT2:=Cz (I:=I) (hb.drop (Ac 3).length);have hT3:=Cz (I:=I) (hb.drop ((Ac 3).length+(Ac n).length));rw[d1] at hT1;rw[d3] at hT2;have hzb:=Km y.cost (by omega) (by omega)
  have d6:=Dd (zig y.cost) [] (by omega)
  rw[List.append_nil] at d6;rw[d5,d6,←d5] at hT3;have hE:=Qs (I:=I) 3 (n:Int) 0 0 y.cost;rw[←ey,hy] at hE;have huz:=N5 y.cost (by omega) (by omega)
  rw[ey];unfold KR at huz;by_cases hr:zig y.cost % 2=1
  ·rw[if_pos hr] at huz
   have hz2:=AbD (zig y.cost) hzb hr;rw[huz] at hz2;have hr2:=Xk (zig y.cost);rw[hr] at hr2;exact SV hj.k0 (WS (by omega) hT1 (by omega) (by omega) d2 hT2 hzb d4 hT3 (by rw[d5];exact Nat.le_refl _) rfl (Vc (zig y.cost) hzb) hr2 rfl hz2 hE hQ)
  ·rw[if_neg hr] at huz
   have hy2:=Vc (zig y.cost) hzb;rw[huz] at hy2;exact SV hj.k0 (WV (by omega) hT1 (by omega) (by omega) d2 hT2 hzb d4 hT3 (by rw[d5];exact Nat.le_refl _) rfl hy2 (Xk (zig y.cost)) (by omega) hE hQ)
theorem Ks {b : List Nat} (hb : B8 b) (hl : b.length ≤ 2000000) (hno : ∀ y, Bb y ≠ (b, 0)) : Sp Tryz.prog I 18 [.t (bI b)] (.tu [chZ, ci 2]) := by
 have qf : ∀ x:Ch,(Bb x).2=0→Sp Tryz.prog I 59 [.t (bI (Bb x).1),.t (bI b)] (lb false):=fun x h=>WC false (decide_eq_false fun h2=>hno x (by rw[←h2,←h])) (Ef x) hb
 have hT1:=Cz (I:=I) hb;have b1:=DL b;generalize AZ b=t1 at *;obtain ⟨k,u,o1⟩:=t1;simp only at hT1 b1;by_cases ho1 : ¬ o1=0
 ·rw[decide_eq_false ho1] at hT1
  exact WR hl hT1
 have ho1:=Decidable.not_not.1 ho1;have b1:=b1 ho1;rw[decide_eq_true ho1] at hT1;by_cases hk1:(k:Int) < 1
 ·exact WQ hl hT1 hk1
 by_cases hk3:3 < (k:Int)
 ·exact WP hl hT1 hk1 hk3
 have hT2:=Cz (I:=I) (hb.drop u);have b2:=DL (b.drop u);generalize AZ (b.drop u)=t2 at *;obtain ⟨n,v,o2⟩:=t2;simp only at hT2 b2;by_cases ho2 : ¬ o2=0
 ·rw[decide_eq_false ho2] at hT2
  exact WO hl hT1 hk1 hk3 b1.2.2.1 hT2
 have ho2:=Decidable.not_not.1 ho2;have b2:=b2 ho2;rw[List.length_drop] at b2;rw[decide_eq_true ho2] at hT2;have hT3:=Cz (I:=I) (hb.drop (u+v));have b3:=DL (b.drop (u+v));have z3:=JV (b.drop (u+v));generalize AZ (b.drop (u+v))=t3 at *;obtain ⟨a,w,o3⟩:=t3;simp only at hT3 b3 z3;by_cases ho3 : ¬ o3=0
 ·rw[decide_eq_false ho3] at hT3
  have ha:a=0:=by have:=z3.2 ho3;simp at this;exact this.1
  exact WN hl hT1 hk1 hk3 b1.2.2.1 hT2 (by omega) (by omega) hT3
 have ho3:=Decidable.not_not.1 ho3;have b3:=b3 ho3;rw[decide_eq_true ho3] at hT3;have huv:u+v≤b.length:=by omega
 by_cases k1:(k:Int)=1
 ·by_cases h6:(((b.drop (u+v)).drop w).length:Int)=(a:Int)
  ·by_cases h7:400 < (a:Int)
   ·exact WL hl hT1 hk1 hk3 b1.2.2.1 hT2 b3.1 huv hT3 b3.2.2.1 k1 rfl h6 h7
   ·have hF:=MA (I:=I) ((hb.drop (u+v)).drop w) (by omega)
    have hE:=(GR (I:=I) (c:=true) (k:=84) ⟨(k:Int),(n:Int),Rb ((b.drop (u+v)).drop w),0,0,0⟩ (by omega)).1
    by_cases he:(Bb ⟨(k:Int),(n:Int),Rb ((b.drop (u+v)).drop w),0,0,0⟩).2=0
    ·have hQ:=qf _ he
     rw[he] at hE;exact Xc hl hT1 hk1 hk3 b1.2.2.1 hT2 b3.1 huv hT3 b3.2.2.1 k1 rfl h6 h7 hF hE hQ
    ·exact Xd hl hT1 hk1 hk3 b1.2.2.1 hT2 b3.1 huv hT3 b3.2.2.1 k1 rfl h6 h7 hF he hE
  ·exact WM hl hT1 hk1 hk3 b1.2.2.1 hT2 b3.1 huv hT3 b3.2.2.1 k1 rfl h6
 by_cases k2:(k:Int)=2
 ·have hT4:=Cz (I:=I) ((hb.drop (u+v)).drop w)
  generalize AZ ((b.drop (u+v)).drop w)=t4 at *;obtain ⟨c,w2,o4⟩:=t4;simp only at hT4;by_cases ho4:o4=0
  ·rw[decide_eq_true ho4] at hT4
   have hE:=Qs (I:=I) (k:Int) (n:Int) (a:Int) (c:Int) 0;by_cases he:(Bb ⟨(k:Int),(n:Int),0,(a:Int),(c:Int),0⟩).2=0
   ·have hQ:=qf _ he
    rw[he] at hE;exact WZ hl hT1 hk1 hk3 b1.2.2.1 hT2 b3.1 huv hT3 b3.2.2.1 k2 hT4 hE hQ
   ·exact Xa hl hT1 hk1 hk3 b1.2.2.1 hT2 b3.1 huv hT3 b3.2.2.1 k2 hT4 he hE
  ·rw[decide_eq_false ho4] at hT4
   exact WK hl hT1 hk1 hk3 b1.2.2.1 hT2 b3.1 huv hT3 b3.2.2.1 k2 hT4
 have k3:(k:Int)=3:=by omega
 by_cases hr:a % 2=1
 ·have hr2:=Xk a
  rw[hr] at hr2;have hE:=Qs (I:=I) (k:Int) (n:Int) 0 0 (-((a / 2:Nat)+1:Int));by_cases he:(Bb ⟨(k:Int),(n:Int),0,0,0,-((a / 2:Nat)+1:Int)⟩).2=0
  ·have hQ:=qf _ he
   rw[he] at hE;exact WT hl hT1 hk1 hk3 b1.2.2.1 hT2 b3.1 huv hT3 b3.2.2.1 k3 (Vc a b3.1) hr2 rfl (AbD a b3.1 hr) hE hQ
  ·exact WU hl hT1 hk1 hk3 b1.2.2.1 hT2 b3.1 huv hT3 b3.2.2.1 k3 (Vc a b3.1) hr2 rfl (AbD a b3.1 hr) he hE
 ·have hE:=Qs (I:=I) (k:Int) (n:Int) 0 0 ((a / 2:Nat):Int)
  by_cases he:(Bb ⟨(k:Int),(n:Int),0,0,0,((a / 2:Nat):Int)⟩).2=0
  ·have hQ:=qf _ he
   rw[he] at hE;exact WW hl hT1 hk1 hk3 b1.2.2.1 hT2 b3.1 huv hT3 b3.2.2.1 k3 (Vc a b3.1) (Xk a) (by omega) hE hQ
  ·exact WX hl hT1 hk1 hk3 b1.2.2.1 hT2 b3.1 huv hT3 b3.2.2.1 k3 (Vc a b3.1) (Xk a) (by omega) he hE
end
theorem Om : ∀ (f : Nat) (r : List Nat) (i n m u : Nat), (∀ x ∈ r, x < 256) → Cm f r i n = (m, u, 0) → ∃ q, m = n + q * 2 ^ (7 * i) ∧ i < u ∧ r.take (u - i) = Ac q ∧ (0 < i → q ≠ 0)
 | 0,r,i,n,m,u,_,h=>by simp[Cm] at h
 | f+1,[],i,n,m,u,_,h=>by simp[Cm] at h
 | f+1,b::r,i,n,m,u,hb,h=>by
  have hb1:=hb b (by simp)
  by_cases h1:128≤b
  ·rw[Dm f b i n r h1] at h
   obtain ⟨q,e1,e2,e3,e4⟩:=Om f r (i+1) _ m u (fun x hx=>hb x (by simp[hx])) h
   have hq:=e4 (by omega)
   refine ⟨b % 128+128*q,?_,by omega,?_,fun _=>by omega⟩
   ·rw[e1,show 7*(i+1)=7*i+7 by omega,Nat.pow_add,Nat.add_mul,Nat.add_assoc]
    congr 2;rw[show (2:Nat) ^ 7=128 from rfl,Nat.mul_comm (2 ^ (7*i)) 128,←Nat.mul_assoc,Nat.mul_comm q 128]
   ·rw[show u - i=(u - (i+1))+1 by omega,List.take_succ_cons,e3,Gc (n:=b % 128+128*q) (by omega)]
    have a1:(b % 128+128*q) % 128+128=b:=by omega
    have a2:(b % 128+128*q) / 128=q:=by omega
    rw[a1,a2]
  ·by_cases h2:(b=0∧0 < i)∨4611686018427387904 < n+b % 128*2 ^ (7*i)
   ·rw[FB f b i n r (by omega) h2] at h
    simp at h
   ·rw[DD f b i n r (by omega) h2] at h
    injection h with e1 e2;injection e2 with e2 _;refine ⟨b,?_,by omega,?_,fun hi hb0=>h2 (.inl ⟨hb0,hi⟩)⟩
    ·rw[←e1,Nat.mod_eq_of_lt (by omega)]
    ·rw[show u - i=1 by omega,CF (by omega)]
     rfl
theorem Yv {xs:List Nat}(hx : ∀ x∈xs,x < 256){m u:Nat}(h:AZ xs=(m,u,0)):xs.take u=Ac m:=by
 obtain ⟨q,e1,e2,e3,_⟩:=Om 9 xs 0 0 m u hx h;have:q=m:=by rw[e1];simp
 rw[←this];exact e3
theorem ZX {xs:List Nat}(hx : ∀ x∈xs,x < 256)(h0:xs.length≠0){n u:Nat}(hd:AZ (xs.drop 1)=(n,u,0))(hl:1+u+n+4≤xs.length):AX (xs.getD 0 0) ((xs.drop (1+u)).take n)=xs.take (1+u+n):=by
 have e:=Yv (KG 1 hx) hd;have hb:((xs.drop (1+u)).take n).length=n:=by rw[List.length_take,List.length_drop];omega
 unfold AX;rw[hb,←e];cases xs with
 | nil=>simp at h0
 | cons a t =>
  show a::(t.take u++((a::t).drop (1+u)).take n)=_;rw[Nat.add_comm 1 u,List.drop_succ_cons,show u+1+n=(u+n)+1 by omega,List.take_succ_cons,List.take_add]
theorem U7 {xs:List Nat}(hx : ∀ x∈xs,x < 256)(h0:xs.length≠0){n u:Nat}(hd:AZ (xs.drop 1)=(n,u,0))(hn:n≤1048576)(hl:1+u+n+4≤xs.length) :
  (Bs (xs.getD 0 0) ((xs.drop (1+u)).take n)).length=1+u+n+4∧((Bs (xs.getD 0 0) ((xs.drop (1+u)).take n)=xs.take (1+u+n+4)→AP xs=(xs.getD 0 0,(xs.drop (1+u)).take n,1+u+n+4,0))∧(Bs (xs.getD 0 0) ((xs.drop (1+u)).take n)≠xs.take (1+u+n+4)→(AP xs).2.2.2≠0)):=by
 have hh:=ZX hx h0 hd hl;have hlen:(xs.take (1+u+n)).length=1+u+n:=by rw[List.length_take];omega
 have hu:AP xs=if (xs.drop (1+u+n)).take 4=D8 (crc (xs.take (1+u+n))) then (xs.getD 0 0,(xs.drop (1+u)).take n,1+u+n+4,0) else (0,[],0,4):=by
  unfold AP;rw[if_neg h0,hd];simp only;rw[if_neg (by omega),if_neg (by omega),if_neg (by omega)]
 unfold Bs;rw[hh];have et:xs.take (1+u+n+4)=xs.take (1+u+n)++(xs.drop (1+u+n)).take 4:=List.take_add;refine ⟨by rw[List.length_append,hlen,Jy],fun h => ?_,fun h => ?_⟩
 ·rw[hu,if_pos]
  rw[et] at h;exact (List.append_cancel_left h).symm
 ·rw[hu,if_neg]
  ·decide
  ·intro h2
   exact h (by rw[et,h2])
abbrev c8 (z:Int):CT := .one (.b (.lit (.int .u8 z)))
section
variable {I:WInv}
theorem Aaa {xs:List Nat}(hx:B8 xs):Sp Tryz.prog I 60 [c8 7,.t (bI xs)] (.tu [.t (bI (frame 7 xs).1),ci (frame 7 xs).2]):=by
 intro N w vs _ hN hv;obtain ⟨v,r,rfl,h,v2,r2,rfl,h2,h3⟩:=hv;have h:[v]=[.int .u8 7]:=h;injection h with h;subst h;have h3:r2=[]:=h3;subst h3;obtain ⟨A,c,e1,g1,g2,g3⟩:=MX h2;injection e1 with e1;subst e1;exact (V3 7 w g1 hx (by omega)).mono fun e w' he=>J6 he
theorem Kp {xs:List Nat}(hx:B8 xs)(hl:xs.length≤140737488355328):Sp Tryz.prog I 26 [.t (bI xs)] (.tu [c8 ((AP xs).1:Nat),.t (bI (AP xs).2.1),ci ((AP xs).2.2.1:Nat),ci ((AP xs).2.2.2:Nat)]):=by
 intro N w vs _ hN hv;obtain ⟨v,r,rfl,h,h'⟩:=hv;have h':r=[]:=h';subst h';obtain ⟨A,c,e1,h1,h2,h3⟩:=MX h;injection e1 with e1;subst e1;refine (PR w h1 hx h2 hl h3).mono fun e w' ⟨v,he,ho⟩ => ?_
 subst he;exact ⟨_,rfl,⟨_,rfl,_,_,rfl,rfl,_,_,rfl,Sl ho,_,_,rfl,rfl,_,_,rfl,rfl,rfl⟩,ho.2⟩
end
set_option maxRecDepth 100000 in
theorem YC {A : Option Addr} {n c B : Nat} {xs : List Nat} (w : World) (r3 : Rd .u8 w B A n xs) (hx : ∀ x ∈ xs, x < 256) (hn : n ≤ 9223372036854775807) :
  Calls Tryz.prog 110 #[.slice A n c] w fun e w'=>e = .returned (.int .u32 (crc xs:Nat))∧w=w':=by
 have hl:=r3.len;have HL:=Lib.hid hl;clear hl;have Hx:=Lib.hid hx;clear hx;go_enter Tryz.func110,Tryz.ntmps110
 go_wp2
 go_loop [3,4,5] (fun s i _ => ∃ k:Nat,k≤n∧i = .int .i64 k∧s = .int .u32 (DE 4294967295 (xs.take k):Nat)) (fun _ i _=>n - (intOf i).toNat)
 case atStart=>exact ⟨0,by omega,rfl,rfl⟩
 case round =>
  obtain ⟨k,hk,rfl,rfl⟩:=hrel;by_cases hlt:k < n
  ·obtain ⟨b,off,rfl,hbB,hc⟩:=r3.at_ hlt
   have HS:=Lib.hid (Lj 4294967295 (xs.take k) (xs.getD k 0));have hs:=FD (xs.take k) 4294967295 (by omega) (fun x h=>Hx.out x (List.mem_of_mem_take h))
   rw[←Cy xs k (by rw[HL.out];exact hlt)] at HS
   have hy:=D0 xs k 256 Hx.out (by omega)
   generalize DE 4294967295 (xs.take k)=s at *;generalize xs.getD k 0=y at *;have e1:=u32_xor_nat s y hs (by omega)
   have hi:(s ^^^ y) < 4294967296:=Nat.xor_lt_two_pow (n:=32) hs (by omega)
   generalize s ^^^ y=z at *;go_wp2
   go_loop [3,5] (fun r j => ∃ m:Nat,m≤8∧j = .int .i64 m∧r = .int .u32 (B7 m z:Nat)) (fun _ j=>8 - (intOf j).toNat)
   case atStart=>exact ⟨0,by omega,rfl,rfl⟩
   case round =>
    obtain ⟨m,hm,rfl,rfl⟩:=hrel;have hlt:=EN (r:=z) (by omega) m
    by_cases hm8:m < 8
    ·obtain ⟨r,hr⟩ : ∃ r,r=B7 m z:=⟨_,rfl⟩
     rw[←hr] at hlt ⊢;have HT:Hid (B7 (m+1) z=CG r):=by rw[hr];rfl
     clear hr;have hx:=PU r hlt;have ha:=N7 r hlt;by_cases hp:r % 2=1
     ·have ha':bits .and .u32 (r:Int) 1=1:=by rw[ha,hp];rfl
      have HP:=Lib.hid hp;clear ha hp;go_wp2
      go_round
      case rel=>exact ⟨m+1,by omega,by go_num,by rw[HT.out,CG,if_pos HP.out]⟩
      case measure=>simp[intOf];omega
     ·have ha':bits .and .u32 (r:Int) 1=0:=by rw[ha,show r % 2=0 by omega];rfl
      have HP:=Lib.hid hp;clear ha hp;go_wp2
      go_round
      case rel=>exact ⟨m+1,by omega,by go_num,by rw[HT.out,CG,if_neg HP.out];go_num⟩
      case measure=>simp[intOf];omega
    ·obtain rfl:m=8:=by omega
     go_wp2
     go_round
     case rel=>exact ⟨k+1,by omega,by go_num,by rw[HS.out]⟩
     case measure=>simp[intOf];omega
  ·obtain rfl:k=n:=by omega
   have hs:=FD (xs.take k) 4294967295 (by omega) (fun x h=>Hx.out x (List.mem_of_mem_take h))
   rw[List.take_of_length_le (by rw[HL.out];omega)] at hs ⊢
   have HC:Hid (crc xs=4294967295 - DE 4294967295 xs):=rfl;generalize DE 4294967295 xs=s at *;go_wp2
   go_ret
   refine ⟨?_,rfl⟩;rw[HC.out,←Tg s hs]
   rfl
set_option maxRecDepth 100000 in
theorem SA {A:Option Addr}{n c:Nat}{xs:List Nat}(kind:Nat)(w:World)(hr:Rd .u8 w w.heap.size A n xs)(hx : ∀ x∈xs,x < 256)(hk:kind < 256)(hn:n≤1048576) :
  Calls Tryz.prog 62 #[.int .u8 kind,.slice A n c] w (Nc .u8 5 w (Bs kind xs)):=by
 have hl:=hr.len;have hb:=EH hk hx (by omega)
 have hfl:=Hu kind xs (by omega)
 have hel:=AJ (n:=n) (by omega)
 have HF:Hid (Bs kind xs=AX kind xs++D8 (crc (AX kind xs))):=rfl;have HH:Hid (AX kind xs=[kind]++Ac n++xs):=by rw[←hl];simp[AX,Hid]
 have Hx:=Lib.hid hx;have Hb:=Lib.hid hb;have HL:=Lib.hid hl;have hcl:=P6 (AX kind xs);clear hx hl hb;go_enter Tryz.func62,Tryz.ntmps62
 go_wp2_with fail
 have o0:=Own.new1 .u8 5 w kind (Below.refl _ _);refine (Fp n _ (by omega)).mono ?_
 rintro e w1 ⟨v1,rfl,o1⟩;obtain ⟨A1,n1,c1,rfl,r1,hc1,hd1⟩:=o1.form';have hn1:n1≤9:=by have:=r1.len;omega
 have o2:=o0.later o1.2;clear o1 o0;go_wp2_with (at_builtin;refine Aw Tryz.elemU8w Tryz.underlying31 o2 r1 rfl rfl rfl rfl ?_ ?_ ?_)
 ·simp;omega
 ·simp;omega
 intro v4 w4 o4 _ _;clear o2;go_wp2_with (at_builtin;refine Aw Tryz.elemU8w Tryz.underlying31 o4 (hr.below o4.below) rfl rfl rfl rfl ?_ ?_ ?_)
 ·simp;omega
 ·simp;omega
 intro v5 w5 o5 _ _;clear o4;have o5':Own .u8 5 w w5 v5 (AX kind xs):=by rw[HH.out];exact o5
 clear o5;obtain ⟨A5,n5,c5,rfl,r5,hc5,hd5⟩:=o5'.form';have hck:=YC (c:=c5) w5 r5 Hb.out (by omega)
 generalize crc (AX kind xs)=sm at *;have HK:=Lib.hid hck;clear hck;go_wp2_with fail
 refine HK.out.mono ?_;rintro e w6 ⟨rfl,rfl⟩;clear HK r5;go_wp2_with (at_builtin;refine Aw Tryz.elemU8w Tryz.underlying31 (o5'.alloc _) (Rd.block .u8 _ 5 _ (D8 sm) _ ?_) rfl rfl rfl rfl ?_ ?_ ?_)
 ·exact LV hcl
 ·simp[D8];omega
 ·simp[D8];omega
 intro v7 w7 o7 _ _;clear o5';go_wp2
 go_ret
 exact ⟨v7,rfl,by rw[HF.out];exact o7⟩
section
variable {I:WInv}
theorem Oc (kind:Nat)(hk:kind < 256){xs:List Nat}(hx:B8 xs)(hl:xs.length≤1048576):Sp Tryz.prog I 62 [c8 (kind:Int),.t (bI xs)] (tit (bI (Bs kind xs))):=by
 intro N w vs _ hN hv;obtain ⟨v,r,rfl,h,v2,r2,rfl,h2,h3⟩:=hv;have h:[v]=[.int .u8 (kind:Int)]:=h;injection h with h;subst h;have h3:r2=[]:=h3;subst h3;obtain ⟨A,c,e1,g1,g2,g3⟩:=MX h2;injection e1 with e1;subst e1;exact (SA kind w g1 hx hk hl).mono fun e w' he=>J5 he
end
section
variable {P:Program}
theorem PI (t:TypeId)(x y:Int)(b:Bool)(h:(!decide (x=y))=b):Be P (.bin .neq t) [l8 x,l8 y] (lb b):=By (vs:=[.int .u8 x,.int .u8 y]) fun w=>by subst h;simp[OpK.run,eqGuard,binOp,Op.intCmp];rfl
theorem SE (w:World)(d:Nat){t e:TypeId}{c:Nat}(ht:P.underlying t=some (.slice e)):(Op.equalIn (d+1) t (.slice none 0 c) (.slice none 0 0)).run P w = .ok true w:=by
 simp[Op.equalIn,AL ht]
theorem ZJ {t e:TypeId}(c:Nat)(ht:P.underlying t=some (.slice e)):Be P (.bin .eql t) [BF (.slice none 0 c),BF (.slice none 0 0)] (lb true):=by
 intro N w g vs hv;obtain ⟨v,x,rfl,h1,h2⟩:=Ev hv;have h1:[v]=[.slice none 0 c]:=h1;have h2:[x]=[.slice none 0 0]:=h2;injection h1 with h1;injection h2 with h2;subst h1 h2;refine ⟨.bool true,w,?_,Below.refl _ _,(rfl:[_]=[_])⟩;have key:(Op.equal t (.slice none 0 c) (.slice none 0 0)).run P w = .ok true w:=SE w 9999 ht;simp only[OpK.run,Sem.run_bind,eqGuard];simp[binOp,key]
end
def bS (xs:List Nat):Item where
 n:=1
 T:=fun N w l=>(bI xs).T N w l ∧ ∃ a n c,l=[.slice (some a) n c]
 step:=fun hw hN ⟨h,h2⟩=>⟨(bI xs).step hw hN h,h2⟩
 len:=fun ⟨h,_⟩=>(bI xs).len h
 one:=fun ⟨h,_⟩=>(bI xs).one h
theorem Adh (xs:List Nat):Be Tryz.prog (.bin .eql 31) [tit (bS xs),BF (.slice none 0 0)] (lb false):=by
 intro N w g vs hv;obtain ⟨v,x,rfl,⟨_,a,n,c,e1⟩,h2⟩:=Ev hv;injection e1 with e1;subst e1;have h2:[x]=[.slice none 0 0]:=h2;injection h2 with h2;subst h2;refine ⟨.bool false,w,?_,Below.refl _ _,(rfl:[_]=[_])⟩;have key:(Op.equal 31 (.slice (some a) n c) (.slice none 0 0)).run Tryz.prog w = .ok false w:=P4 w 9999 (e:=5) (by kernel_rfl)
 simp only[OpK.run,Sem.run_bind,eqGuard];simp[binOp,key]
theorem Ac2 (xs:List Nat):Uu 1 (bS xs) (xs.map Aa).length (xs.map Aa).flatten:=fun N w l h=>BG AU (AO _) N w l h.1
section
variable {I:WInv}
theorem SpN.nil {P:Program}{f:FuncId}{args:List CT}(T s:Nat)(h:Sp P I f args (BF (.slice none 0 0))):SpN P I f args none ⟨T,some (s,0),[]⟩:=by
 refine ⟨rfl,fun N w vs a1 a2 hv=>(h N w vs a1 a2 hv).mono ?_⟩
 rintro en w' ⟨v,e1,e2,e3⟩;have e2:[v]=[.slice none 0 0]:=e2;injection e2 with e2;subst e2;exact ⟨_,N,none,0,0,e1,fun b hb=>hb,fun b hb => .inl hb,⟨none,0,0,rfl,rfl⟩,⟨_,rfl,.inl ⟨s,0,rfl,rfl,rfl,rfl⟩⟩,e3⟩
theorem Aaz {xs:List Nat}(hl:xs.length≤1000000000):SpN Tryz.prog I 61 [.t (bI xs)] none (bbx xs):=by
 have hlm:(xs.map Aa).length=xs.length:=List.length_map _;have h1:SpN Tryz.prog I 61 [.t (bS xs)] none ⟨5,some (1,0+(xs.map Aa).length),Ad (xs.map Aa)⟩:=sn 8 5 [pk (Adh xs),⟨.src 1 (bS xs) (xs.map Aa).length (xs.map Aa).flatten,Ac2 xs⟩,⟨.ap 0 ((xs.map Aa).length) 1,⟨by omega,by simp[maxLen];omega⟩⟩] (Ar _)
 rw[Nat.zero_add,hlm] at h1;have h2 : ∀ c,SpN Tryz.prog I 61 [.one (.b (.lit (.slice none 0 c)))] none ⟨5,some (1,0),[]⟩:=fun c=>SpN.nil _ _ (sr 8 [pk (ZJ (t:=31) c (e:=5) (by kernel_rfl))])
 refine ⟨h1.1,fun N w vs a1 a2 hv => ?_⟩
 obtain ⟨v,r,rfl,h,h'⟩:=hv;obtain ⟨A,c,e,k1,k2,k3⟩:=h;cases A with
 | some a=>exact h1.2 N w _ a1 a2 ⟨_,_,rfl,⟨⟨_,c,e,k1,k2,k3⟩,a,_,c,e⟩,h'⟩
 | none =>
  have hx:xs=[]:=by
   cases xs with
   | nil=>rfl
   | cons x t=>obtain ⟨b,off,h,_⟩:=k3 (fun h=>by cases h);cases h
  subst hx;exact (h2 c).2 N w _ a1 a2 ⟨_,_,rfl,e,h'⟩
def nqC (f xs:List Nat)(i:Nat):Int:=if byt f i=byt xs i then 0 else 1
theorem ZI {f xs:List Nat}(h:f.length≤xs.length):AT (nqC f xs) f.length 0=0↔f=xs.take f.length:=by
 have key : ∀ j,j < f.length→(nqC f xs j=0↔f[j]? = xs[j]?):=by
  intro j hj;unfold nqC byt;rw[List.getD_eq_getElem?_getD,List.getD_eq_getElem?_getD,List.getElem?_eq_getElem hj,List.getElem?_eq_getElem (l:=xs) (by omega)]
  simp only[Option.getD_some,Option.some.injEq];split <;> simp_all
 rw[Bn];constructor
 ·intro h1
  apply List.ext_getElem?;intro j;by_cases hj:j < f.length
  ·rw[List.getElem?_take,if_pos hj]
   exact (key j hj).1 (h1 j (Nat.zero_le _) (by omega))
  ·rw[List.getElem?_eq_none (by omega),List.getElem?_eq_none (by rw[List.length_take];omega)]
 ·intro h1 j _ hj
  have hj:j < f.length:=by omega
  refine (key j hj).2 ?_;have:f[j]? = (xs.take f.length)[j]? := by rw[←h1]
  rw[this,List.getElem?_take,if_pos hj]
def Zl (xs bd f:List Nat)(i:Int):Go.Proofs.YtdgbealknnmkoaaGreatDoor.St:=⟨[(0,.t (slI 1 ((xs).map (Aa)))),(9,.t (slI 1 ((bd).map (Aa)))),(10,.t (slI 1 ((f).map (Aa)))),(11,.i i)],[],50⟩
theorem Zm {xs bd f:List Nat}(hl:f.length≤xs.length)(hx:xs.length≤1000000000) :
  (AT (nqC f xs) f.length 0=0→LoopTr Tryz.prog I 73 (Bj Tryz.prog 65 0) (Zl xs bd f ((0:Nat):Int)) (.exit 0) (Zl xs bd f (f.length:Int))) ∧
  (AT (nqC f xs) f.length 0≠0→LoopTr Tryz.prog I 73 (Bj Tryz.prog 65 0) (Zl xs bd f ((0:Nat):Int)) .ret ⟨[(2,.cv (.one (.b (.lit (.int .u8 0))))),(3,.cv (.one (.z))),(4,.i 0),(5,.o false)],[],50⟩):=by
 refine CS (nqC f xs) f.length (fun i=>Zl xs bd f (i:Int)) (fun _=>⟨[(2,.cv (.one (.b (.lit (.int .u8 0))))),(3,.cv (.one (.z))),(4,.i 0),(5,.o false)],[],50⟩) (fun i hi hc => ?_) ?_ (fun i hi hc => ?_)
 ·have hi2:i < xs.length:=by omega
  have hq:(!decide (((byt f i:Nat):Int)=((byt xs i:Nat):Int)))=false:=by
   unfold nqC at hc;split at hc
   ·rename_i e;rw[e];simp
   ·cases hc
  exact rr [pk (AK 31 5 3 1 ((f).map (Aa)) ((f).length:Int)),pk (As 3 (i:Int) ((f).length:Int)),pk (Ah 31 5 1 ((f).map (Aa)) i (i:Int) (Aa (byt f i)) (Ej hi)),pk (Ah 31 5 1 ((xs).map (Aa)) i (i:Int) (Aa (byt xs i)) (Ej hi2)),pk (PI 5 ((byt f i:Nat):Int) ((byt xs i:Nat):Int) false hq),pk (Az 3 (i:Int) 1 ⟨by omega,by omega⟩)]
 ·exact rr [pk (AK 31 5 3 1 ((f).map (Aa)) ((f).length:Int)),pk (Aj 3 ((f).length:Int) ((f).length:Int))]
 ·have hi2:i < xs.length:=by omega
  have hq:(!decide (((byt f i:Nat):Int)=((byt xs i:Nat):Int)))=true:=by
   unfold nqC at hc;split at hc
   ·exact absurd rfl hc
   ·rename_i e
    have : ¬ ((byt f i:Nat):Int)=((byt xs i:Nat):Int):=by omega
    rw[decide_eq_false this];rfl
  exact rr [pk (AK 31 5 3 1 ((f).map (Aa)) ((f).length:Int)),pk (As 3 (i:Int) ((f).length:Int)),pk (Ah 31 5 1 ((f).map (Aa)) i (i:Int) (Aa (byt f i)) (Ej hi)),pk (Ah 31 5 1 ((xs).map (Aa)) i (i:Int) (Aa (byt xs i)) (Ej hi2)),pk (PI 5 ((byt f i:Nat):Int) ((byt xs i:Nat):Int) true hq)]
theorem LU {f:FuncId}{args:List CT}(h:Sp Tryz.prog I f args (.tu [c8 0,.one (.z),ci 0,cb false])){r:Nat×List Nat×Nat×Nat}(hr : ∃ e,e≠0∧r=(0,[],0,e)):Sp Tryz.prog I f args (.tu [c8 (r.1:Nat),.t (bI r.2.1),ci (r.2.2.1:Nat),cb (decide (r.2.2.2=0))]):=by
 obtain ⟨e,he,rfl⟩:=hr;simp only;rw[decide_eq_false he];exact h.rs (KS ⟨CTle.refl,XLe.one H7,CTle.refl,CTle.refl,trivial⟩)
theorem Jv (xs : List Nat) (h : (AP xs).2.2.2 ≠ 0) : ∃ e, e ≠ 0 ∧ AP xs = (0, [], 0, e) := by
 revert h;unfold AP;split
 ·intro _;exact ⟨3,by decide,rfl⟩
 ·split
  ·rename_i h;intro _;exact ⟨_,h,rfl⟩
  ·split
   ·intro _;exact ⟨2,by decide,rfl⟩
   ·split
    ·intro _;exact ⟨3,by decide,rfl⟩
    ·split
     ·intro h;exact absurd rfl h
     ·intro _;exact ⟨4,by decide,rfl⟩
theorem AcC {xs:List Nat}(hx:B8 xs)(hl:xs.length≤1000000000):Sp Tryz.prog I 65 [.t (bI xs)] (.tu [c8 ((AP xs).1:Nat),.t (bI (AP xs).2.1),ci ((AP xs).2.2.1:Nat),cb (decide ((AP xs).2.2.2=0))]):=by
 by_cases hz:xs.length=0
 ·exact LU (sr 73 [pk (AK 31 5 3 1 ((xs).map (Aa)) ((xs).length:Int)),pk (Ak 3 ((xs).length:Int) 0)]) ⟨3,by decide,by unfold AP;rw[if_pos hz]⟩
 have h0:0 < xs.length:=by omega
 have hT:=Cz (I:=I) (hx.drop 1);have hbd:=DL (xs.drop 1);have hgood:=fun n u hd hn hc=>U7 (n:=n) (u:=u) hx hz hd hn hc
 have hbad : ∀ r,AP xs=r→r.2.2.2≠0 → ∃ e,e≠0∧AP xs=(0,[],0,e):=fun r h1 h2=>Jv xs (by rw[h1];exact h2)
 have hun:AP xs=AP xs:=rfl;unfold AP at hun;rw[if_neg hz] at hun;have hut:(AZ (xs.drop 1)).2.2≠0→(AP xs).2.2.2≠0:=fun h=>by unfold AP;rw[if_neg hz,if_pos h];exact h
 have hu1:(AZ (xs.drop 1)).2.2=0→1048576 < (AZ (xs.drop 1)).1→(AP xs).2.2.2≠0:=fun h h2=>by unfold AP;rw[if_neg hz,if_neg (fun hh=>hh h),if_pos h2];decide
 have hu2:(AZ (xs.drop 1)).2.2=0 → ¬ 1048576 < (AZ (xs.drop 1)).1→xs.length - (1+(AZ (xs.drop 1)).2.1) < (AZ (xs.drop 1)).1+4→(AP xs).2.2.2≠0:=fun h h2 h3=>by unfold AP;rw[if_neg hz,if_neg (fun hh=>hh h),if_neg h2,if_pos h3];decide
 clear hun hbad;generalize AZ (xs.drop 1)=r at *;obtain ⟨n,u,o⟩:=r;simp only at hT hbd hut hu1 hu2;by_cases ho : ¬ o=0
 ·rw[decide_eq_false ho] at hT
  exact LU (sr 73 [pk (AK 31 5 3 1 ((xs).map (Aa)) ((xs).length:Int)),pk (Af 3 ((xs).length:Int) 0),pk (AE xs 1 _ rfl (by omega)),po (hT),pa]) (Jv xs (hut ho))
 have ho:=Decidable.not_not.1 ho;subst ho;rw[decide_eq_true rfl] at hT;obtain ⟨b1,b2,b3,b4⟩:=hbd rfl;rw[List.length_drop] at b3;by_cases hn:1048576 < n
 ·exact LU (sr 73 [pk (AK 31 5 3 1 ((xs).map (Aa)) ((xs).length:Int)),pk (Af 3 ((xs).length:Int) 0),pk (AE xs 1 _ rfl (by omega)),po (hT),pa,pk (BN 3 (n:Int) 1048576)]) (Jv xs (hu1 rfl hn))
 by_cases hc:xs.length < 1+u+n+4
 ·exact LU (sr 73 [pk (AK 31 5 3 1 ((xs).map (Aa)) ((xs).length:Int)),pk (Af 3 ((xs).length:Int) 0),pk (AE xs 1 _ rfl (by omega)),po (hT),pa,pk (Ao 3 (n:Int) 1048576),pk (AK 31 5 3 1 ((xs).map (Aa)) ((xs).length:Int)),pk (Az 3 1 (u:Int) ⟨by omega,by omega⟩),pk (Az 3 (1+(u:Int)) (n:Int) ⟨by omega,by omega⟩),pk (Az 3 ((1+(u:Int))+(n:Int)) 4 ⟨by omega,by omega⟩),pk (As 3 ((xs).length:Int) (((1+(u:Int))+(n:Int))+4))]) (Jv xs (hu2 rfl hn (by omega)))
 obtain ⟨g1,g2,g3⟩:=hgood n u rfl (by omega) (by omega)
 have hcut:=Acy xs (1+u) (1+u+n) (1+(u:Int)) (1+(u:Int)+(n:Int)) (by omega) (by omega) (by omega) (by omega)
 have hbe:(xs.take (1+u+n)).drop (1+u)=(xs.drop (1+u)).take n:=by rw[List.drop_take];congr 1;omega
 rw[hbe] at hcut;have hb8:B8 ((xs.drop (1+u)).take n):=(hx.drop _).take _;have hbl:((xs.drop (1+u)).take n).length≤1048576:=by rw[List.length_take];omega
 have hf:=Oc (I:=I) (xs.getD 0 0) (D0 xs 0 256 hx (by omega)) hb8 hbl
 have hf:Sp Tryz.prog I _ [c8 ((byt xs 0:Nat):Int),_] _:=hf;generalize (xs.drop (1+u)).take n=bd at *;have g2:Bs (byt xs 0) bd=xs.take (1+u+n+4)→AP xs=(byt xs 0,bd,1+u+n+4,0):=g2;have hf:Sp Tryz.prog I _ _ (tit (bI (Bs (byt xs 0) bd))):=hf;have g1:(Bs (byt xs 0) bd).length=_:=g1;have g3:Bs (byt xs 0) bd≠xs.take (1+u+n+4)→_:=g3;generalize hfe:Bs (byt xs 0) bd=f at *;obtain ⟨l1,l2⟩:=Zm (I:=I) (xs:=xs) (bd:=bd) (f:=f) (by omega) hl
 have hiff:=ZI (f:=f) (xs:=xs) (by omega)
 rw[g1] at hiff;by_cases he:AT (nqC f xs) f.length 0=0
 ·have lo:=l1 he
  rw[g2 (hiff.1 (by rw[←g1];exact he))]
  simp only;rw[show (1+u+n+4:Nat)=f.length from g1.symm];simp only[decide_true];exact sr 73 [pk (AK 31 5 3 1 ((xs).map (Aa)) ((xs).length:Int)),pk (Af 3 ((xs).length:Int) 0),pk (AE xs 1 _ rfl (by omega)),po (hT),pa,pk (Ao 3 (n:Int) 1048576),pk (AK 31 5 3 1 ((xs).map (Aa)) ((xs).length:Int)),pk (Az 3 1 (u:Int) ⟨by omega,by omega⟩),pk (Az 3 (1+(u:Int)) (n:Int) ⟨by omega,by omega⟩),pk (Az 3 ((1+(u:Int))+(n:Int)) 4 ⟨by omega,by omega⟩),pk (Aj 3 ((xs).length:Int) (((1+(u:Int))+(n:Int))+4)),pk (Az 3 1 (u:Int) ⟨by omega,by omega⟩),pk (Az 3 1 (u:Int) ⟨by omega,by omega⟩),pk (Az 3 (1+(u:Int)) (n:Int) ⟨by omega,by omega⟩),pk (hcut),⟨.src 1 (bI bd) ((bd).map Aa).length ((bd).map Aa).flatten,BG AU (AO _)⟩,⟨.ap 0 (((bd).map Aa).length) 1,⟨by simp;omega,by simp[maxLen];omega⟩⟩,pm (AH (I:=I) (t:=9) (k:=41) (E:=[(0,.t (slI 1 ((xs).map (Aa)))),(2,.cv (.one (.b (.lit (.int .u8 0))))),(3,.cv (.one (.z))),(4,.i 0),(5,.o false),(12,.t (slI 1 ((xs).map (Aa)))),(13,.i ((xs).length:Int)),(14,.o false),(16,.t (slI 1 ((xs).map (Aa)))),(17,.t (slI 1 ((xs.drop 1).map (Aa)))),(18,.tu [.i (n:Int),.i (u:Int),.one (.o true)]),(15,.tu [.i (n:Int),.i (u:Int),.one (.o true)]),(19,.i (n:Int)),(20,.i (u:Int)),(21,.o true),(6,.i (n:Int)),(7,.i (u:Int)),(8,.o true),(22,.o true),(23,.o false),(24,.o false),(25,.i (n:Int)),(26,.o false),(27,.o false),(28,.o false),(29,.t (slI 1 ((xs).map (Aa)))),(30,.i ((xs).length:Int)),(31,.i (u:Int)),(32,.i (1+(u:Int))),(33,.i (n:Int)),(34,.i ((1+(u:Int))+(n:Int))),(35,.i (((1+(u:Int))+(n:Int))+4)),(36,.o false),(37,.o false),(38,.t (slI 1 ((xs).map (Aa)))),(39,.i (u:Int)),(40,.i (1+(u:Int))),(41,.i (u:Int)),(42,.i (1+(u:Int))),(43,.i (n:Int)),(44,.i ((1+(u:Int))+(n:Int))),(45,.t (slI 1 ((bd).map (Aa)))),(46,.s 41)]) (B:=[]) (nx:=43) (T:=5) (sz:=1) (n:=(((bd).map Aa).length)) ((bd).map Aa) rfl (by simp) AU rfl),pk (Ah 31 5 1 ((xs).map (Aa)) 0 0 (Aa (byt xs 0)) (Ej h0)),po (hf),pl (lo),pk (Ah 31 5 1 ((xs).map (Aa)) 0 0 (Aa (byt xs 0)) (Ej h0)),pk (AK 31 5 3 1 ((f).map (Aa)) ((f).length:Int))]
 ·have lo:=l2 he
  exact LU (sr 73 [pk (AK 31 5 3 1 ((xs).map (Aa)) ((xs).length:Int)),pk (Af 3 ((xs).length:Int) 0),pk (AE xs 1 _ rfl (by omega)),po (hT),pa,pk (Ao 3 (n:Int) 1048576),pk (AK 31 5 3 1 ((xs).map (Aa)) ((xs).length:Int)),pk (Az 3 1 (u:Int) ⟨by omega,by omega⟩),pk (Az 3 (1+(u:Int)) (n:Int) ⟨by omega,by omega⟩),pk (Az 3 ((1+(u:Int))+(n:Int)) 4 ⟨by omega,by omega⟩),pk (Aj 3 ((xs).length:Int) (((1+(u:Int))+(n:Int))+4)),pk (Az 3 1 (u:Int) ⟨by omega,by omega⟩),pk (Az 3 1 (u:Int) ⟨by omega,by omega⟩),pk (Az 3 (1+(u:Int)) (n:Int) ⟨by omega,by omega⟩),pk (hcut),⟨.src 1 (bI bd) ((bd).map Aa).length ((bd).map Aa).flatten,BG AU (AO _)⟩,⟨.ap 0 (((bd).map Aa).length) 1,⟨by simp;omega,by simp[maxLen];omega⟩⟩,pm (AH (I:=I) (t:=9) (k:=41) (E:=[(0,.t (slI 1 ((xs).map (Aa)))),(2,.cv (.one (.b (.lit (.int .u8 0))))),(3,.cv (.one (.z))),(4,.i 0),(5,.o false),(12,.t (slI 1 ((xs).map (Aa)))),(13,.i ((xs).length:Int)),(14,.o false),(16,.t (slI 1 ((xs).map (Aa)))),(17,.t (slI 1 ((xs.drop 1).map (Aa)))),(18,.tu [.i (n:Int),.i (u:Int),.one (.o true)]),(15,.tu [.i (n:Int),.i (u:Int),.one (.o true)]),(19,.i (n:Int)),(20,.i (u:Int)),(21,.o true),(6,.i (n:Int)),(7,.i (u:Int)),(8,.o true),(22,.o true),(23,.o false),(24,.o false),(25,.i (n:Int)),(26,.o false),(27,.o false),(28,.o false),(29,.t (slI 1 ((xs).map (Aa)))),(30,.i ((xs).length:Int)),(31,.i (u:Int)),(32,.i (1+(u:Int))),(33,.i (n:Int)),(34,.i ((1+(u:Int))+(n:Int))),(35,.i (((1+(u:Int))+(n:Int))+4)),(36,.o false),(37,.o false),(38,.t (slI 1 ((xs).map (Aa)))),(39,.i (u:Int)),(40,.i (1+(u:Int))),(41,.i (u:Int)),(42,.i (1+(u:Int))),(43,.i (n:Int)),(44,.i ((1+(u:Int))+(n:Int))),(45,.t (slI 1 ((bd).map (Aa)))),(46,.s 41)]) (B:=[]) (nx:=43) (T:=5) (sz:=1) (n:=(((bd).map Aa).length)) ((bd).map Aa) rfl (by simp) AU rfl),pk (Ah 31 5 1 ((xs).map (Aa)) 0 0 (Aa (byt xs 0)) (Ej h0)),po (hf),pl (lo)]) (Jv xs (g3 fun h=>he (by rw[g1];exact hiff.2 h)))
end
def FX (b:List Nat)(x:Ch):List Nat×Int:=if (Bb x).2=0 then (b++Bs 7 (Bb x).1,0) else ([],(Bb x).2)
theorem M9 (x:Ch)(h:(Bb x).2=0):frame 7 (Bb x).1=(Bs 7 (Bb x).1,0)∧(Bs 7 (Bb x).1).length≤1000:=by
 have hl:=EF x;have h9:=AJ (n:=(Bb x).1.length) (by omega)
 refine ⟨by unfold frame;rw[if_pos (by omega)],?_⟩
 rw[FZ];omega
theorem Re (x:Ch):B8 (Bs 7 (Bb x).1):=by
 have hl:=EF x;intro y hy;unfold Bs at hy;rcases List.mem_append.1 hy with h | h
 ·exact EH (by omega) (Ef x) (by omega) y h
 ·exact UF _ y h
theorem ZT {b:List Nat}(h:B8 b)(x:Ch):B8 (FX b x).1:=by
 unfold FX;split
 ·exact h.app (Re x)
 ·exact fun x hx=>by cases hx
section
variable {I:WInv}{c:Bool}{k:Nat}
theorem RD (b:List Nat)(hb:b.length≤1000000000)(x:Ch)(hk:k≤1000):Sp Tryz.prog D4 22 [.t (bI b),chK c k x] (.tu [.t (bI (FX b x).1),ci (FX b x).2]):=by
 have hE:=SF (c:=c) (k:=k) x hk;have hF:=Aaa (I:=D4) (Ef x);unfold FX;by_cases h:(Bb x).2=0
 ·obtain ⟨f1,f2⟩:=M9 x h
  rw[f1] at hF;rw[h] at hE;rw[if_pos h];simp only at hF ⊢;generalize Bs 7 (Bb x).1=f at *;generalize (Bb x).1=e at *;exact sr 29 [po (hE),pa,po (hF),pa,pon (Aaz (xs:=b) (by omega)),⟨.src 1 (bI f) ((f).map Aa).length ((f).map Aa).flatten,BG AU (AO _)⟩,⟨.ap ((b).length) (((f).map Aa).length) 1,⟨by simp;omega,by simp[maxLen];omega⟩⟩,pm ((show Leads D4 _ ⟨[(4,.s 24),(5,.i 0)],[(24,some ⟨5,some (1,(b).length+((f).map Aa).length),(Ad ((b).map Aa))++(((f).map Aa).flatten.map It.b)⟩)],27⟩ ⟨[(4,.s 24),(5,.i 0)],[(24,some ⟨5,some (1,(b++f).length),Ad ((b++f).map Aa)⟩)],27⟩ from AN [] ⟨rfl,TVle.refl,rfl,TVle.refl,trivial⟩ ⟨rfl,rfl,(congrArg (fun m=>some (1,m)) (show (b).length+((f).map Aa).length=(b++f).length by simp only[List.length_append,List.length_map] <;> omega)),ILe.eq (show (Ad ((b).map Aa))++(((f).map Aa).flatten.map It.b)=Ad ((b++f).map Aa) from by simp[Ad]),trivial⟩ (hnp:=⟨fun _=>BM (Ar _) (Ar _),trivial⟩))),pm (AH (I:=D4) (t:=4) (k:=24) (E:=[(5,.i 0)]) (B:=[]) (nx:=27) (T:=5) (sz:=1) (n:=((b++f).length)) ((b++f).map Aa) rfl (by simp) AU rfl)]
 ·rw[if_neg h]
  simp only;generalize (Bb x).2=r at *;generalize (Bb x).1=e at *;exact Vo (sr 29 [po (hE),pk (AR 32 r 0)])
theorem ZS {b:List Nat}{x:Ch}(h:(FX b x).2=0):(Bb x).2=0∧FX b x=(b++Bs 7 (Bb x).1,0):=by
 unfold FX at h ⊢;by_cases he:(Bb x).2=0
 ·exact ⟨he,by rw[if_pos he]⟩
 ·rw[if_neg he] at h;exact absurd h he
theorem NJ (b:List Nat)(hb:b.length≤1000000000)(x:Ch)(hk:k≤1000):Sp Tryz.prog I 23 [.t (bI b),chK c k x] (.tu [.t (bI (FX b x).1),ci (FX b x).2]):=by
 have hE:=(GR (I:=I) (c:=c) (k:=k) x hk).1;have hl:=EF x;have hF:=Oc (I:=I) 7 (by omega) (Ef x) (by omega)
 have hF:Sp Tryz.prog I 62 [c8 7,.t (bI (Bb x).1)] (tit (bI (Bs 7 (Bb x).1))):=hF;unfold FX;by_cases h:(Bb x).2=0
 ·obtain ⟨f1,f2⟩:=M9 x h
  rw[h] at hE;rw[if_pos h];simp only;clear f1;generalize Bs 7 (Bb x).1=f at *;generalize (Bb x).1=e at *;exact sr 21 [po (hE),pa,⟨.src 1 (bI b) ((b).map Aa).length ((b).map Aa).flatten,BG AU (AO _)⟩,⟨.ap 0 (((b).map Aa).length) 1,⟨by simp;omega,by simp[maxLen];omega⟩⟩,po (hF),⟨.src 1 (bI f) ((f).map Aa).length ((f).map Aa).flatten,BG AU (AO _)⟩,⟨.ap (((b).map Aa).length) (((f).map Aa).length) 1,⟨by simp;omega,by simp[maxLen];omega⟩⟩,pm ((show Leads I _ ⟨[(4,.s 16),(5,.i 0)],[(16,some ⟨5,some (1,((b).map Aa).length+((f).map Aa).length),(((b).map Aa).flatten.map It.b)++(((f).map Aa).flatten.map It.b)⟩)],19⟩ ⟨[(4,.s 16),(5,.i 0)],[(16,some ⟨5,some (1,(b++f).length),Ad ((b++f).map Aa)⟩)],19⟩ from AN [] ⟨rfl,TVle.refl,rfl,TVle.refl,trivial⟩ ⟨rfl,rfl,(congrArg (fun m=>some (1,m)) (show ((b).map Aa).length+((f).map Aa).length=(b++f).length by simp only[List.length_append,List.length_map] <;> omega)),ILe.eq (show (((b).map Aa).flatten.map It.b)++(((f).map Aa).flatten.map It.b)=Ad ((b++f).map Aa) from by simp[Ad]),trivial⟩ (hnp:=⟨fun _=>BM (Ar _) (Ar _),trivial⟩))),pm (AH (I:=I) (t:=4) (k:=16) (E:=[(5,.i 0)]) (B:=[]) (nx:=19) (T:=5) (sz:=1) (n:=((b++f).length)) ((b++f).map Aa) rfl (by simp) AU rfl)]
 ·rw[if_neg h]
  simp only;clear hF hl;generalize (Bb x).2=r at *;generalize (Bb x).1=e at *;exact Vo (sr 21 [po (hE),pk (AR 32 r 0)])
end
def ch0:Ch:=⟨0,0,0,0,0,0⟩
def cat (L:List Ch)(i:Nat):Ch:=L.getD i ch0
theorem EP {L:List Ch}{i:Nat}(h:i < L.length):L[i]? = some (cat L i):=by unfold cat;rw[List.getD_eq_getElem?_getD,List.getElem?_eq_getElem h];rfl
theorem Eh {L:List Ch}{i:Nat}{f:Ch→List It0}(h:i < L.length):(L.map f)[i]? = some (f (cat L i)):=map_some (EP h)
def jfr (b:List Nat)(a:Nat)(y:Ch)(e:Nat):Prop := ∃ body used,AP (b.drop a)=(7,body,used,0)∧Bb y=(body,0)∧e=a+used
structure Jr (b:List Nat) (cs:List Ch) (p:Nat→Nat):Prop where
 st : ∀ i,i < cs.length→jfr b (p i) (cat cs i) (p (i+1))
 en : ∀ y e,¬ jfr b (p cs.length) y e
theorem PS {xs : List Nat} (h : (AP xs).2.2.2 = 0) : 0 < (AP xs).2.2.1 ∧ (AP xs).2.2.1 ≤ xs.length := by
 unfold AP at h ⊢;split
 ·rename_i h0;rw[if_pos h0] at h;cases h
 ·rename_i h0
  rw[if_neg h0] at h;split
  ·rename_i h1;rw[if_pos h1] at h;exact absurd h h1
  ·rename_i h1
   rw[if_neg h1] at h;split
   ·rename_i h2;rw[if_pos h2] at h;cases h
   ·rename_i h2
    rw[if_neg h2] at h;split
    ·rename_i h3;rw[if_pos h3] at h;cases h
    ·rename_i h3
     rw[if_neg h3] at h;split
     ·simp only;omega
     ·rename_i h4;rw[if_neg h4] at h;cases h
theorem M4 {b:List Nat}{a:Nat}{y:Ch}{e:Nat}(h:jfr b a y e):a < e∧e≤b.length:=by
 obtain ⟨body,used,h1,_,rfl⟩:=h;have:=PS (xs:=b.drop a) (by rw[h1])
 rw[h1,List.length_drop] at this;simp only at this;omega
theorem TN (b : List Nat) : ∀ n a, b.length - a ≤ n → ∃ cs p, p 0 = a ∧ Jr b cs p
 | n,a,hn=>by
  by_cases h : ∃ y e,jfr b a y e
  ·obtain ⟨y,e,h⟩:=h
   have hlt:=M4 h;cases n with
   | zero=>omega
   | succ n =>
    obtain ⟨cs,p,h0,hj⟩:=TN b n e (by omega)
    refine ⟨y::cs,fun i=>match i with | 0=>a | i+1=>p i,rfl,⟨fun i hi => ?_,?_⟩⟩
    ·cases i with
     | zero=>show jfr b a y (p 0);rw[h0];exact h
     | succ i=>exact hj.st i (Nat.lt_of_succ_lt_succ hi)
    ·exact hj.en
  ·exact ⟨[],fun _=>a,rfl,⟨fun i hi=>(Nat.not_lt_zero i hi).elim,fun y e hh=>h ⟨y,e,hh⟩⟩⟩
theorem AcX (b:List Nat) : ∃ cs p,p 0=0∧Jr b cs p:=TN b _ 0 (Nat.le_refl _)
theorem Jr.mono {b:List Nat}{cs:List Ch}{p:Nat→Nat}(h:Jr b cs p)(h0:p 0=0) : ∀ i,i≤cs.length→i≤p i∧p i≤b.length
 | 0,_=>by rw[h0];omega
 | i+1,hi=>by
  have:=h.mono h0 i (by omega)
  have:=M4 (h.st i (by omega))
  omega
abbrev Br (c:Bool)(k:Nat)(x:Ch):List It0:=[.lit (.int .i64 x.kind),.lit (.int .i64 x.node),.it (fF c k x.q),.lit (.int .i64 x.fst),.lit (.int .i64 x.nxt),.lit (.int .i64 x.cost)]
theorem RX {c:Bool}{k:Nat}{L:List Ch} : ∀ r∈L.map (Br c k),BU r=9:=by
 intro r hr;obtain ⟨x,_,rfl⟩:=List.mem_map.1 hr
 rfl
abbrev csI (c:Bool)(k:Nat)(L:List Ch):Item:=slI 9 (L.map (Br c k))
abbrev cbx (c:Bool)(k:Nat)(L:List Ch):Ent:=⟨28,some (9,L.length),Ad (L.map (Br c k))⟩
abbrev lbx (k:Nat):Ent:=⟨39,none,[.sl k]⟩
abbrev ibx (z:Int):Ent:=⟨3,none,[.i z]⟩
section
variable {I:WInv}{nt:Nat}
theorem Sr {E : Env} {B : Bxs} {k nx T T2 s : Nat} : Leads I nt ⟨E, (k, some ⟨T, none, [.z]⟩) :: B, nx⟩ ⟨E, (nx, some ⟨T2, some (s, 0), []⟩) :: (k, some ⟨T, none, [.sl nx]⟩) :: B, nx + 1⟩ := by
 rintro N0 w0 a w ⟨N,g,h1,h2⟩;have hfr:g nx=none:=h2 nx (Nat.le_refl _);have hx:=C7 (v := .sl none 0 0) hfr;have old : ∀ j e,nx≠j→AB ((nx,some ⟨T2,some (s,0),[]⟩)::(k,some ⟨T,none,[.sl nx]⟩)::B) j=some e → ∃ e',AB ((k,some ⟨T,none,[.z]⟩)::B) j=some e':=by
  intro j e hj he;rw[Bk,if_neg hj,Bk] at he;rw[Bk];by_cases hk:k=j
  ·rw[if_pos hk];exact ⟨_,rfl⟩
  ·rw[if_neg hk] at he ⊢;exact ⟨e,he⟩
 refine ⟨N,upg g nx (.sl none 0 0),{ h1 with slots := ?_,boxes := ?_,inj := ?_,rig:=fun k v hv=>hx k v (h1.rig k v hv) },?_⟩
 ·intro q v hv
  exact TV.step (h1.slots q v hv) (WStep.refl _ _) (fun _ h=>h) hx
 ·intro j e he
  rw[Bk] at he;by_cases hk:nx=j
  ·subst hk
   rw[if_pos rfl] at he;injection he with he;subst he;exact ⟨_,Cp,.inl ⟨s,0,rfl,rfl,rfl,rfl⟩⟩
  ·rw[if_neg hk,Bk] at he
   by_cases hj:k=j
   ·subst hj
    rw[if_pos rfl] at he;injection he with he;subst he;have hb:=h1.boxes k ⟨T,none,[.z]⟩ (by rw[Bk,if_pos rfl])
    have hb:=hb.keep (WStep.refl _ _) (fun _ h=>h) (fun b hb2=>hb.notN hb2) (fun b hb=>rfl) hx
    obtain ⟨gv,r1,r2⟩:=hb;refine ⟨gv,r1,?_⟩;rcases r2 with ⟨s',n',q1,_⟩ | ⟨b,cs,l,q1,q2,q3,q4⟩
    ·cases q1
    ·refine .inr ⟨b,cs,l,q1,q2,?_,q4⟩
     obtain ⟨l1,l2,e1,e2,e3⟩:=q3;have e2:l1=[.slice none 0 0]:=e2;subst e2;exact ⟨_,_,e1,⟨none,0,0,Cp,rfl⟩,e3⟩
   ·rw[if_neg hj] at he
    have hb:=h1.boxes j e (by rw[Bk,if_neg hj];exact he)
    exact hb.keep (WStep.refl _ _) (fun _ h=>h) (fun b hb2=>hb.notN hb2) (fun b hb=>rfl) hx
 ·intro i j e e' b q1 q2 q3 q4
  by_cases hk:nx=i
  ·subst hk
   rw[DZ] at q3;cases q3
  ·by_cases hj:nx=j
   ·subst hj
    rw[DZ] at q4;cases q4
   ·obtain ⟨f1,p1⟩:=old i e hk q1
    obtain ⟨f2,p2⟩:=old j e' hj q2;unfold AI at q3 q4;rw[CC (Ne.symm hk)] at q3;rw[CC (Ne.symm hj)] at q4;exact h1.inj i j f1 f2 b p1 p2 q3 q4
 ·intro k hk
  change nx+1≤k at hk
  show upg g nx _ k=none;rw[CC (by omega:k≠nx)]
  exact h2 k (show nx≤k by omega)
end
section
variable {I:WInv}{k:Nat}
theorem Xl (L:List Ch)(hl:L.length≤1000000000)(x:Ch)(e u:Int):SpM Tryz.prog I 64 [(0,some (lbx 2)),(1,some (ibx u)),(2,some (cbx true k L))] [chK true k x,ci e,.one (.ptr 0 0),.one (.ptr 1 0)] [(0,some (lbx 2)),(1,some (ibx e)),(2,some (cbx true k (L++[x])))] (lb true) :=
 sm 12 [⟨.ap ((L).length) 1 104,⟨by omega,by simp[maxLen];omega⟩⟩,pm ((show Leads I _ ⟨[(1,.i e),(3,.p 1 0)],[(0,some ⟨39,none,[.sl 8]⟩),(1,some ⟨3,none,[.i u]⟩),(8,some ⟨28,some (9,(L).length+1),(Ad ((L).map (Br true k)))++([.i x.kind,.i x.node,.b (.it (fF true k x.q)),.i x.fst,.i x.nxt,.i x.cost])⟩)],10⟩ ⟨[(1,.i e),(3,.p 1 0)],[(0,some ⟨39,none,[.sl 2]⟩),(1,some ⟨3,none,[.i u]⟩),(2,some ⟨28,some (9,(L++[x]).length),Ad (((L++[x])).map (Br true k))⟩)],10⟩ from AN [(2,8)] ⟨rfl,TVle.refl,rfl,TVle.refl,trivial⟩ ⟨rfl,rfl,rfl,ILe.refl,rfl,rfl,rfl,ILe.refl,rfl,rfl,(congrArg (fun m=>some (9,m)) (show (L).length+1=(L++[x]).length by simp)),ILe.eq (show (Ad ((L).map (Br true k)))++([.i x.kind,.i x.node,.b (.it (fF true k x.q)),.i x.fst,.i x.nxt,.i x.cost])=Ad (((L++[x])).map (Br true k)) from by simp[Ad]),trivial⟩))]
end
theorem Po {j:Nat}{y:Ch}{b:List Nat}(hy:Bb y=(b,0))(hj:Lq y.q j):Sp Tryz.prog Am 16 [.t (bI b)] (.tu [chK true j y,ci 0]):=(Vy hy).rs (KS ⟨YF hj,CTle.refl,trivial⟩)
theorem Wc {xs : List Nat} (h : B8 xs) : B8 (AP xs).2.1 := by
 unfold AP;split
 ·exact fun x hx=>by cases hx
 ·split
  ·exact fun x hx=>by cases hx
  ·split
   ·exact fun x hx=>by cases hx
   ·split
    ·exact fun x hx=>by cases hx
    ·split
     ·exact (h.drop _).take _
     ·exact fun x hx=>by cases hx
theorem Tb {a used e:Nat}(h:e=a+used)(hb:e≤4611686018427387904):Be Tryz.prog (.bin .add 3) [li (a:Int),li (used:Int)] (li (e:Int)):=by
 have:=Az (P:=Tryz.prog) 3 (a:Int) (used:Int) ⟨by omega,by omega⟩
 rwa [show (a:Int)+(used:Int)=(e:Int) by omega] at this
section
variable {k:Nat}
def est (k:Nat)(b:List Nat)(a:Int)(L:List Ch)(u:Int):Go.Proofs.YtdgbealknnmkoaaGreatDoor.St:=⟨[(0,.t (slI 1 ((b).map (Aa)))),(1,.cv (.one (.clo 64 [(0,0),(1,0)]))),(4,.i a)],[(0,some ⟨39,none,[.sl 2]⟩),(1,some ⟨3,none,[.i u]⟩),(2,some ⟨28,some (9,(L).length),Ad ((L).map (Br true k))⟩)],50⟩
def Aag (k:Nat)(L:List Ch)(u:Int):Go.Proofs.YtdgbealknnmkoaaGreatDoor.St:=⟨[],[(0,some ⟨39,none,[.sl 2]⟩),(1,some ⟨3,none,[.i u]⟩),(2,some ⟨28,some (9,(L).length),Ad ((L).map (Br true k))⟩)],50⟩
theorem Aah (b:List Nat)(hb:B8 b)(hl:b.length≤1000000000)(a:Nat)(L:List Ch)(hL:L.length≤1000000000)(u:Int)(y:Ch)(e:Nat)(h:jfr b a y e)(hk:Lq y.q k) :
  Rnd Tryz.prog Am 44 (Bj Tryz.prog 63 0) (est k b (a:Int) L u) .normal (est k b (e:Int) (L++[y]) (e:Int)):=by
 have hlt:=M4 h;obtain ⟨body,used,h1,h2,h3⟩:=h;have hU:=Kp (I:=Am) (hb.drop a) (by rw[List.length_drop];omega)
 rw[h1] at hU;have hU:Sp Tryz.prog Am 26 _ (.tu [c8 7,.t (bI body),ci (used:Int),ci 0]):=hU;have hD:=Po h2 hk;have hA:=Tb h3 (by omega)
 have hC:=Xl (I:=Am) (k:=k) L hL y (e:Int) u;exact Rnd.nam [(2,90)] (show Rnd _ _ _ _ _ _ ⟨[(0,.t (slI 1 ((b).map (Aa)))),(1,.cv (.one (.clo 64 [(0,0),(1,0)]))),(4,.i (e:Int))],[(0,some ⟨39,none,[.sl 90]⟩),(1,some ⟨3,none,[.i (e:Int)]⟩),(90,some ⟨28,some (9,((L++[y])).length),Ad (((L++[y])).map (Br true k))⟩)],92⟩ from rr [pk (AK 31 5 3 1 ((b).map (Aa)) ((b).length:Int)),pk (As 3 (a:Int) ((b).length:Int)),pk (AE b a _ rfl (by omega)),po (hU),pa,pa,po (hD),pa,pk (hA),pom [0,1,2] (hC),pa]) (t:=⟨[(0,.t (slI 1 ((b).map (Aa)))),(1,.cv (.one (.clo 64 [(0,0),(1,0)]))),(4,.i (e:Int))],[(0,some ⟨39,none,[.sl 2]⟩),(1,some ⟨3,none,[.i (e:Int)]⟩),(2,some ⟨28,some (9,((L++[y])).length),Ad (((L++[y])).map (Br true k))⟩)],50⟩) ⟨rfl,TVle.refl,rfl,TVle.refl,rfl,TVle.refl,trivial⟩ ⟨rfl,rfl,rfl,ILe.refl,rfl,rfl,rfl,ILe.refl,rfl,rfl,rfl,ILe.refl,trivial⟩
theorem V9 (b : List Nat) (hb : B8 b) (hl : b.length ≤ 1000000000) (a : Nat) (ha : a ≤ b.length) (L : List Ch) (u : Int) (h : ∀ y e, ¬ jfr b a y e) :
  Rnd Tryz.prog Am 44 (Bj Tryz.prog 63 0) (est k b (a:Int) L u) (.exit 0) (Aag k L u)∨Rnd Tryz.prog Am 44 (Bj Tryz.prog 63 0) (est k b (a:Int) L u) .ret (Aag k L u):=by
 by_cases hab:a < b.length
 ·right
  have hU:=Kp (I:=Am) (hb.drop a) (by rw[List.length_drop];omega)
  have hb8:=Wc (hb.drop a);have hj : ∀ body used,AP (b.drop a)=(7,body,used,0) → ∀ y,Bb y≠(body,0):=fun body used h1 y h2=>h y _ ⟨body,used,h1,h2,rfl⟩
  have hbl : (AP (b.drop a)).2.1.length ≤ 1000000000 := by
   unfold AP;split
   ·simp
   ·split
    ·simp
    ·split
     ·simp
     ·split
      ·simp
      ·split
       ·simp only[List.length_take,List.length_drop];omega
       ·simp
  generalize AP (b.drop a)=r at *;obtain ⟨kd,body,used,o⟩:=r;simp only at hU hb8 hbl;by_cases ho:o=0
  ·subst ho
   have hU:Sp Tryz.prog Am 26 _ (.tu [c8 (kd:Int),.t (bI body),ci (used:Int),ci 0]):=hU;by_cases hk7:kd=7
   ·subst hk7
    have hU:Sp Tryz.prog Am 26 _ (.tu [c8 7,.t (bI body),ci (used:Int),ci 0]):=hU;have hD:=JI hb8 (hj body used rfl);exact Rnd.nam [] (show Rnd _ _ _ _ _ _ ⟨[],[(0,some ⟨39,none,[.sl 2]⟩),(1,some ⟨3,none,[.i u]⟩),(2,some ⟨28,some (9,(L).length),Ad ((L).map (Br true k))⟩)],83⟩ from rr [pk (AK 31 5 3 1 ((b).map (Aa)) ((b).length:Int)),pk (As 3 (a:Int) ((b).length:Int)),pk (AE b a _ rfl (by omega)),po (hU),pa,pa,po (hD),pa]) (t:=⟨[],[(0,some ⟨39,none,[.sl 2]⟩),(1,some ⟨3,none,[.i u]⟩),(2,some ⟨28,some (9,(L).length),Ad ((L).map (Br true k))⟩)],50⟩) trivial ⟨rfl,rfl,rfl,ILe.refl,rfl,rfl,rfl,ILe.refl,rfl,rfl,rfl,ILe.refl,trivial⟩
   ·have hq:(!decide ((kd:Int)=7))=true:=by rw[decide_eq_false (by omega)];rfl
    exact Rnd.nam [] (show Rnd _ _ _ _ _ _ ⟨[],[(0,some ⟨39,none,[.sl 2]⟩),(1,some ⟨3,none,[.i u]⟩),(2,some ⟨28,some (9,(L).length),Ad ((L).map (Br true k))⟩)],73⟩ from rr [pk (AK 31 5 3 1 ((b).map (Aa)) ((b).length:Int)),pk (As 3 (a:Int) ((b).length:Int)),pk (AE b a _ rfl (by omega)),po (hU),pa,pk (PI 5 (kd:Int) 7 true hq)]) (t:=⟨[],[(0,some ⟨39,none,[.sl 2]⟩),(1,some ⟨3,none,[.i u]⟩),(2,some ⟨28,some (9,(L).length),Ad ((L).map (Br true k))⟩)],50⟩) trivial ⟨rfl,rfl,rfl,ILe.refl,rfl,rfl,rfl,ILe.refl,rfl,rfl,rfl,ILe.refl,trivial⟩
  ·exact Rnd.nam [] (show Rnd _ _ _ _ _ _ ⟨[],[(0,some ⟨39,none,[.sl 2]⟩),(1,some ⟨3,none,[.i u]⟩),(2,some ⟨28,some (9,(L).length),Ad ((L).map (Br true k))⟩)],73⟩ from rr [pk (AK 31 5 3 1 ((b).map (Aa)) ((b).length:Int)),pk (As 3 (a:Int) ((b).length:Int)),pk (AE b a _ rfl (by omega)),po (hU),pk (AR 32 (o:Int) 0)]) (t:=⟨[],[(0,some ⟨39,none,[.sl 2]⟩),(1,some ⟨3,none,[.i u]⟩),(2,some ⟨28,some (9,(L).length),Ad ((L).map (Br true k))⟩)],50⟩) trivial ⟨rfl,rfl,rfl,ILe.refl,rfl,rfl,rfl,ILe.refl,rfl,rfl,rfl,ILe.refl,trivial⟩
 ·left
  exact Rnd.nam [] (show Rnd _ _ _ _ _ _ ⟨[],[(0,some ⟨39,none,[.sl 2]⟩),(1,some ⟨3,none,[.i u]⟩),(2,some ⟨28,some (9,(L).length),Ad ((L).map (Br true k))⟩)],54⟩ from rr [pk (AK 31 5 3 1 ((b).map (Aa)) ((b).length:Int)),pk (Aj 3 (a:Int) ((b).length:Int))]) (t:=⟨[],[(0,some ⟨39,none,[.sl 2]⟩),(1,some ⟨3,none,[.i u]⟩),(2,some ⟨28,some (9,(L).length),Ad ((L).map (Br true k))⟩)],50⟩) trivial ⟨rfl,rfl,rfl,ILe.refl,rfl,rfl,rfl,ILe.refl,rfl,rfl,rfl,ILe.refl,trivial⟩
theorem GH {L:List Ch}{i:Nat}(h:i < L.length):L.take (i+1)=L.take i++[cat L i]:=by
 rw[List.take_add_one,EP h];rfl
theorem VB (b:List Nat)(hb:B8 b)(hl:b.length≤1000000000){cs:List Ch}{p:Nat→Nat}(hj:Jr b cs p)(h0:p 0=0)(hk : ∀ i,i < cs.length→Lq (cat cs i).q k) :
  LoopTr Tryz.prog Am 44 (Bj Tryz.prog 63 0) (est k b 0 [] 0) (.exit 0) (Aag k cs (p cs.length:Int))∨LoopTr Tryz.prog Am 44 (Bj Tryz.prog 63 0) (est k b 0 [] 0) .ret (Aag k cs (p cs.length:Int)):=by
 have hm:=hj.mono h0;have step : ∀ i,i < cs.length→Rnd Tryz.prog Am 44 (Bj Tryz.prog 63 0) (est k b (p i:Int) (cs.take i) (p i:Int)) .normal (est k b (p (i+1):Int) (cs.take (i+1)) (p (i+1):Int)):=fun i hi=>by
  have h1:=hm i (by omega)
  have h2:=hm cs.length (Nat.le_refl _);rw[GH hi];exact Aah b hb hl (p i) (cs.take i) (by rw[List.length_take];omega) _ (cat cs i) _ (hj.st i hi) (hk i hi)
 have s0:est k b (p 0:Int) (cs.take 0) (p 0:Int)=est k b 0 [] 0:=by rw[h0];rfl
 have hend:=V9 (k:=k) b hb hl (p cs.length) (hm _ (Nat.le_refl _)).2 cs (p cs.length:Int) hj.en;rw[←s0];have e1:est k b (p cs.length:Int) (cs.take cs.length) (p cs.length:Int)=est k b (p cs.length:Int) cs (p cs.length:Int):=by rw[List.take_length]
 rcases hend with h | h
 ·left
  exact Ck (by simp) (fun i=>est k b (p i:Int) (cs.take i) (p i:Int)) cs.length step (by show Rnd _ _ _ _ (est k b (p cs.length:Int) (cs.take cs.length) (p cs.length:Int)) _ _;rw[e1];exact h)
 ·right
  exact Ck (by simp) (fun i=>est k b (p i:Int) (cs.take i) (p i:Int)) cs.length step (by show Rnd _ _ _ _ (est k b (p cs.length:Int) (cs.take cs.length) (p cs.length:Int)) _ _;rw[e1];exact h)
theorem VA (b:List Nat)(hb:B8 b)(hl:b.length≤1000000000){cs:List Ch}{p:Nat→Nat}(hj:Jr b cs p)(h0:p 0=0)(hk : ∀ i,i < cs.length→Lq (cat cs i).q k) :
  SpM Tryz.prog Am 63 [(0,some (lbx 2)),(1,some (ibx 0)),(2,some (cbx true k []))] [.t (bI b),.one (.clo 64 [(0,0),(1,0)])] [(0,some (lbx 2)),(1,some (ibx (p cs.length:Int))),(2,some (cbx true k cs))] (.tu []):=by
 have h:=VB b hb hl hj h0 hk;generalize p cs.length=u at *;rcases h with lo | lo
 ·exact sm 44 [pl (lo)]
 ·exact sm 44 [pl (lo)]
theorem Se (b:List Nat)(hb:B8 b)(hl:b.length≤1000000000){cs:List Ch}{p:Nat→Nat}(hj:Jr b cs p)(h0:p 0=0)(hk : ∀ i,i < cs.length→Lq (cat cs i).q k) :
  Sp Tryz.prog Am 24 [.t (bI b)] (.tu [.t (csI true k cs),ci (p cs.length:Int)]):=by
 have he:=VA b hb hl hj h0 hk;generalize p cs.length=u at *;exact sr 11 [⟨.upd [.i 0] 0 [.i 0] [.i 0],rfl⟩,pm ((Sr (I:=Am) (E:=[(0,.t (slI 1 ((b).map (Aa)))),(2,.cv (.one (.z))),(3,.i 0),(4,.p 2 0),(5,.p 3 0)]) (B:=[(3,some ⟨3,none,[.i 0]⟩)]) (k:=2) (nx:=5) (T:=39) (T2:=28) (s:=9))),pom [2,3,5] (he),⟨.part ([.sl 8]) 0 1 [.sl 8],rfl⟩,⟨.part ([.i (u:Int)]) 0 1 [.i (u:Int)],rfl⟩,pm (AH (I:=Am) (t:=2) (k:=8) (E:=[(3,.i (u:Int))]) (B:=[]) (nx:=13) (T:=28) (sz:=9) (n:=((cs).length)) ((cs).map (Br true k)) rfl (by simp) RX rfl)]
end
end Go.Proofs.YtdgbealknnmkoaaGreatDoor
