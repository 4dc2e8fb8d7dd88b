/- Texts of one proof, put together by a program: each lemma is proved for all values of its variables, under the premises that it states. -/
import Derived.Below
import Derived.Deep.AppendLies
import Derived.Deep.Draws
import Derived.Handy
import Derived.Laws.OwnMore
import Derived.Laws.Tables
import Derived.Lib.AppendStr
import Derived.Lib.Hide
import Derived.Maps.AppendAt
import Derived.WalkKit
import Derived.WalkLawsBesides
import Derived.WalkSpells
set_option linter.unusedVariables false
set_option linter.unusedSimpArgs false
namespace Go.Proofs.YtdgbealknnmkoaaGreatDoor
open Go.RowKit
theorem sA {α:Type}{l:List α}{i:Nat}{a:α}:l.toArray.setIfInBounds i a=(l.set i a).toArray:=List.setIfInBounds_toArray ..
def cellsOf (k:IntKind)(xs:List Nat):List Value:=xs.map fun x:Nat => .int k (x:Int)
theorem CK (k:IntKind)(xs:List Nat):(cellsOf k xs).length=xs.length:=by simp[cellsOf]
theorem GG (k:IntKind)(xs ys:List Nat):cellsOf k (xs++ys)=cellsOf k xs++cellsOf k ys:=by simp[cellsOf]
theorem DT (k:IntKind)(xs:List Nat)(j:Nat):(cellsOf k xs)[j]? = xs[j]?.map fun x:Nat => .int k (x:Int):=by simp[cellsOf]
theorem Lm (k:IntKind)(xs:List Nat) : ∀ u∈cellsOf k xs,u.oneCell'=true:=by
 intro u hu;simp only[cellsOf,List.mem_map] at hu;obtain ⟨x,_,rfl⟩:=hu
 rfl
theorem Kl (b off n:Nat):(⟨b,off,none⟩:Addr).add n=⟨b,off+n,none⟩:=by unfold Addr.add;split <;> simp_all
def Rd (k:IntKind)(w:World)(B:Nat)(A:Option Addr)(n:Nat)(xs:List Nat):Prop :=
 xs.length=n∧(0 < n → ∃ b off,A=some ⟨b,off,none⟩∧b < B ∧ ∀ (j x:Nat),xs[j]? = some x→w.cell? ⟨b,off+j,none⟩=some (.int k (x:Int)))
section
variable {k:IntKind}{w w':World}{B B' n:Nat}{A:Option Addr}{xs:List Nat}
theorem Rd.nil:Rd k w B A 0 []:=⟨rfl,fun h=>absurd h (by omega)⟩
theorem Rd.len (h:Rd k w B A n xs):xs.length=n:=h.1
theorem Rd.at_ {j:Nat}(h:Rd k w B A n xs)(hj:j < n) : ∃ b off,A=some ⟨b,off,none⟩∧b < B∧w.cell? ⟨b,off+j,none⟩=some (.int k ((xs.getD j 0:Nat):Int)):=by
 obtain ⟨b,off,e,hb,hc⟩:=h.2 (by omega)
 have hl:j < xs.length:=by have:=h.1;omega
 refine ⟨b,off,e,hb,hc j _ ?_⟩;rw[List.getD_eq_getElem?_getD,List.getElem?_eq_getElem hl];rfl
theorem Rd.keep (h:Rd k w B A n xs)(hk : ∀ p:Addr,p.block < B→w'.cell? p=w.cell? p):Rd k w' B A n xs :=
 ⟨h.1,fun hn=>by
  obtain ⟨b,off,e,hb,hc⟩:=h.2 hn;exact ⟨b,off,e,hb,fun j u hu=>(hk _ hb).trans (hc j u hu)⟩⟩
theorem Rd.more (h:Rd k w B A n xs)(hB:B≤B'):Rd k w B' A n xs :=
 ⟨h.1,fun hn=>by
  obtain ⟨b,off,e,hb,hc⟩:=h.2 hn;exact ⟨b,off,e,by omega,hc⟩⟩
theorem Rd.below (h:Rd k w B A n xs)(hb:Below B w w'):Rd k w' B A n xs:=h.keep fun _ hp=>hb.cell hp
theorem Rd.call (h:Rd k w w.heap.size A n xs)(hb:Below w.heap.size w w'):Rd k w' w'.heap.size A n xs:=(h.below hb).more hb.size
theorem Rd.drew (h:Rd k w B A n xs):Rd k w.drew B A n xs:=h
theorem Rd.drewN (h:Rd k w B A n xs)(m:Nat):Rd k (w.drewN m) B A n xs:=h
theorem Rd.alloc (h:Rd k w B A n xs)(hB:B≤w.heap.size)(o:Obj):Rd k (w.alloc o) B A n xs:=h.keep fun p hp=>World.cell?_alloc_lt w o p (by omega)
theorem Rd.alloc' (h:Rd k w w.heap.size A n xs)(o:Obj):Rd k (w.alloc o) (w.alloc o).heap.size A n xs:=(h.alloc (Nat.le_refl _) o).more (by simp)
theorem Rd.setCell (h:Rd k w B A n xs){p:Addr}(hB:B≤p.block)(u:Value):Rd k (w.setCell p u) B A n xs :=
 h.keep fun q hq=>World.cell?_setCell_other w p q u (fun e=>by subst e;omega)
theorem Rd.grown (h:Rd k w B A n xs){row:Option Nat}(hg:w.grownBy w' row)(hB:B≤w.heap.size)(hr : ∀ g,row=some g→B≤g):Rd k w' B A n xs :=
 h.keep fun p hp=>World.cell?_of_block (hg.block p.block (by omega) (fun e=>by have:=hr _ e.symm;omega))
theorem Rd.sub (h:Rd k w B A n xs){i j b off:Nat}(hA:A=some ⟨b,off,none⟩)(hij:i≤j)(hj:j≤n):Rd k w B (some ⟨b,off+i,none⟩) (j - i) ((xs.drop i).take (j - i)):=by
 refine ⟨by rw[List.length_take,List.length_drop,h.1];omega,fun hn => ?_⟩
 obtain ⟨b',off',e,hb,hc⟩:=h.2 (by omega)
 rw[hA] at e;injection e with e;injection e with e1 e2;subst e1 e2;refine ⟨b,off+i,rfl,hb,fun q x hx => ?_⟩
 rw[List.getElem?_take] at hx;split at hx
 ·rw[List.getElem?_drop] at hx
  rw[Nat.add_assoc];exact hc _ _ hx
 ·cases hx
theorem Rd.take (h:Rd k w B A n xs){j:Nat}(hj:j≤n):Rd k w B A j (xs.take j):=by
 refine ⟨by rw[List.length_take,h.1];omega,fun hn => ?_⟩
 obtain ⟨b',off',e,hb,hc⟩:=h.2 (by omega)
 refine ⟨b',off',e,hb,fun q x hx => ?_⟩
 rw[List.getElem?_take] at hx;split at hx
 ·exact hc _ _ hx
 ·cases hx
end
def Own (k:IntKind)(e:TypeId)(w0 w:World)(v:Value)(xs:List Nat):Prop :=
 w.ownsRow w0.heap.size e 1 v xs.length (cellsOf k xs)∧Below w0.heap.size w0 w
section
variable {k:IntKind}{e:TypeId}{w0 w w':World}{v:Value}{xs:List Nat}
theorem Own.nil (hb:Below w0.heap.size w0 w):Own k e w0 w (.slice none 0 0) []:=⟨World.ownsRow_nil _ _ _ _,hb⟩
theorem Own.below (h:Own k e w0 w v xs):Below w0.heap.size w0 w:=h.2
theorem Own.alloc (h:Own k e w0 w v xs)(o:Obj):Own k e w0 (w.alloc o) v xs:=⟨h.1.alloc o,h.2.alloc h.2.size o⟩
theorem Own.drew (h:Own k e w0 w v xs):Own k e w0 w.drew v xs:=⟨h.1,h.2.drew⟩
theorem Own.form (h:Own k e w0 w v xs) : ∃ A c,v = .slice A xs.length c∧Rd k w w.heap.size A xs.length xs∧xs.length≤c∧c≤9223372036854775807:=by
 rcases h.1.2 with ⟨rfl,hn⟩ | ⟨g,cap,cur,rfl,hg,hh,hnc,hcm,hcs,ht⟩
 ·exact ⟨none,0,by rw[hn],⟨rfl,fun h=>by omega⟩,by omega,by omega⟩
 ·refine ⟨_,cap,rfl,⟨rfl,fun hn=>⟨g,0,rfl,(Array.getElem?_eq_some_iff.1 hh).1,fun j x hx => ?_⟩⟩,hnc,by unfold maxLen at hcm;exact hcm⟩
  have hc:=h.1.cells (g:=g) rfl j (.int k (x:Int)) (by rw[DT,hx];rfl)
  rwa [Kl] at hc
theorem Own.form' (h:Own k e w0 w v xs) : ∃ A n c,v = .slice A n c∧Rd k w w.heap.size A n xs∧n≤c∧c≤9223372036854775807:=by
 obtain ⟨A,c,h1,h2,h3⟩:=h.form;exact ⟨A,_,c,h1,h2,h3⟩
theorem Own.later (h:Own k e w0 w v xs)(hb:Below w.heap.size w w'):Own k e w0 w' v xs:=by
 refine ⟨?_,h.2.trans (hb.mono h.2.size)⟩;exact h.1.kept (row:=none) ⟨hb.os,hb.tape,hb.output,hb.size,fun i hi _=>hb.block i hi⟩ (by cases v.ownBlock <;> simp)
theorem Own.up {w1:World}(h:Own k e w1 w v xs)(hb:Below w0.heap.size w0 w1):Own k e w0 w v xs:=by
 refine ⟨⟨h.1.1,?_⟩,hb.trans (h.2.mono hb.size)⟩;rcases h.1.2 with h2 | ⟨g,cap,cur,hv,hg,r⟩
 ·exact .inl h2
 ·exact .inr ⟨g,cap,cur,hv,Nat.le_trans hb.size hg,r⟩
end
def CX (P:Program)(k:IntKind)(e:TypeId)(bytes:Nat):Prop:=(P.info? e).map (fun i=>(i.zero,i.size,i.bytes))=some (some (.int k 0),1,bytes)
theorem Me {P:Program}{k:IntKind}{e t ty:TypeId}{bytes:Nat}(hE:CX P k e bytes)(ht:P.underlying t=some (.slice e))
  {w0 w:World} {v:Value} {xs:List Nat} (hown:Own k e w0 w v xs) {A:Option Addr} {m c B:Nat} {ys:List Nat} (hr:Rd k w B A m ys) (hlen:(xs.length+m)*bytes≤140737488355328) (hmax:xs.length+m≤9223372036854775807) :
  ∃ v' w',(Builtin.append_ #[t,t] ty #[v,.slice A m c]).run P w = .ok v' w'∧Own k e w0 w' v' (xs++ys)∧w.grownBy w' v.ownBlock∧(v'.ownBlock=v.ownBlock∨v'.ownBlock=some w.heap.size):=by
 obtain ⟨i,hi,hz,hsize,hby⟩:=info_parts hE;rcases A with _ | ad
 ·have hm:m=0:=by
   rcases Nat.eq_zero_or_pos m with h0 | h0
   ·exact h0
   ·obtain ⟨_,_,h,_⟩:=hr.2 h0
    cases h
  subst hm;have hn:ys=[]:=List.eq_nil_of_length_eq_zero hr.1;subst hn;refine ⟨v,w,?_,by simpa using hown,World.grownBy.refl w _,.inl rfl⟩
  rcases hown.1.2 with ⟨rfl,hx⟩ | ⟨g,cap,cur,rfl,_,_,hnc,_⟩
  ·simp[Builtin.append_,run_underlying ht,sizeOf,typeInfo,hi,Builtin.lenOf,Builtin.firstCells]
  ·simp[Builtin.append_,run_underlying ht,sizeOf,typeInfo,hi,Builtin.lenOf,Builtin.firstCells,hnc,storeCells]
 ·have hcells : ∀ j u,(cellsOf k ys)[j]? = some u→w.cell? (ad.add j)=some u:=by
   intro j u hu;rw[DT] at hu;obtain ⟨x,hx,rfl⟩:=Option.map_eq_some_iff.1 hu;have h0:0 < m:=by
    have:=hr.1;have:=(List.getElem?_eq_some_iff.1 hx).1;omega
   obtain ⟨b,off,h,_,hc⟩:=hr.2 h0;injection h with h;subst h;rw[Kl];exact hc j x hx
  obtain ⟨v',w',hrun,h2,h3,_,h5⟩:=run_append_own_at (P:=P) w w0.heap.size t ty e i _ 1 bytes ht hi hz hsize hby rfl (by omega) v xs.length (cellsOf k xs) hown.1 ad m c (cellsOf k ys) (by rw[CK,hr.1];omega) hcells (Lm k ys) (by simp only[maxLen];omega) hlen hown.2.size
  refine ⟨v',w',hrun,⟨?_,hown.2.grown h3 hown.2.size (fun g hg=>(hown.1.lt g hg).1)⟩,h3,h5⟩
  rw[List.length_append,hr.1,GG];exact h2
theorem DI {P:Program}{o:Oper}{a:Act}{K:Act→World→Prop}{Q:Exit→Act→World→Prop}{k:IntKind}{e t:TypeId}{bytes:Nat}(hE:CX P k e bytes)(ht:P.underlying t=some (.slice e))
  {w0 w:World} {v:Value} {xs:List Nat} (hown:Own k e w0 w v xs) {A:Option Addr} {m c B:Nat} {ys:List Nat} (hr:Rd k w B A m ys)
  {s x:Operand} (ho:o.op = .call { callee := .builtin .append,args := #[s,x],argTypes := #[t,t] }) (hs:a.eval s=v) (hx:a.eval x = .slice A m c)
  (hlen:(xs.length+m)*bytes≤140737488355328) (hmax:xs.length+m≤9223372036854775807)
  (h : ∀ v' w',Own k e w0 w' v' (xs++ys)→w.grownBy w' v.ownBlock→(v'.ownBlock=v.ownBlock∨v'.ownBlock=some w.heap.size)→K (a.put o.dst v') w'):o.wp P a w K Q:=by
 obtain ⟨v',w',hrun,h2,h3,h4⟩:=Me (c:=c) (ty:=o.type) hE ht hown hr hlen hmax;unfold Oper.wp execOp;simp only[ho,resolve,invoke,builtin,Sem.run_bind,Sem.run_pure,Result.andThen_ok,List.map_toArray,List.map_cons,List.map_nil,hs,hx,hrun];exact h v' w' h2 h3 h4
theorem Aw {P:Program}{ops:Array Oper}{rest:List Oper}{o:Oper}{a:Act}{Q:Exit→Act→World→Prop}{k:IntKind}{e t:TypeId}{bytes:Nat}(hE:CX P k e bytes)(ht:P.underlying t=some (.slice e))
  {w0 w:World} {v:Value} {xs:List Nat} (hown:Own k e w0 w v xs) {A:Option Addr} {m c B:Nat} {ys:List Nat} (hr:Rd k w B A m ys)
  (hgd:o.guard=none) {s x:Operand} (ho:o.op = .call { callee := .builtin .append,args := #[s,x],argTypes := #[t,t] }) (hs:a.eval s=v) (hx:a.eval x = .slice A m c)
  (hlen:(xs.length+m)*bytes≤140737488355328) (hmax:xs.length+m≤9223372036854775807)
  (h : ∀ v' w',Own k e w0 w' v' (xs++ys)→w.grownBy w' v.ownBlock→(v'.ownBlock=v.ownBlock∨v'.ownBlock=some w.heap.size)→wpList P ops Q rest (a.put o.dst v') w'):wpList P ops Q (o::rest) a w :=
 wpList_plain hgd fun _ hK=>DI hE ht hown hr ho hs hx hlen hmax fun v' w' h2 h3 h4=>hK _ _ (h v' w' h2 h3 h4)
theorem Rd.one (k:IntKind)(w:World)(e:TypeId){z:Int}{y:Nat}(hz:z=(y:Int)):Rd k (w.alloc (.cells #[.int k z] e)) (w.heap.size+1) (some ⟨w.heap.size,0,none⟩) 1 [y]:=by
 subst hz;refine ⟨rfl,fun _=>⟨_,_,rfl,by omega,fun j x hx => ?_⟩⟩
 obtain ⟨hj,hx'⟩:=List.getElem?_eq_some_iff.1 hx;simp at hj;subst hj;simp at hx';subst hx';simp
def bytesOf (s:ByteArray):List Nat:=s.data.toList.map UInt8.toNat
def AM (xs:List Nat):ByteArray:=⟨(xs.map UInt8.ofNat).toArray⟩
theorem Aq (s:ByteArray):(bytesOf s).length=s.size:=by
 rw[bytesOf,List.length_map,Array.length_toList];rfl
theorem BB (xs:List Nat):(AM xs).size=xs.length:=by
 show ((xs.map UInt8.ofNat).toArray).size=_;simp
theorem Fm (xs:List Nat)(h : ∀ x∈xs,x < 256):bytesOf (AM xs)=xs:=by
 unfold bytesOf AM;simp only[List.map_map]
 conv=>rhs;rw[←List.map_id xs]
 apply List.map_congr_left;intro x hx;have:=h x hx;simp;omega
theorem OH (xs ys:List Nat):AM (xs++ys)=AM xs++AM ys:=by
 apply ByteArray.ext;simp[AM,ByteArray.data_append]
theorem Qe (s:ByteArray):Lib.strCells s=cellsOf .u8 (bytesOf s):=by
 simp[Lib.strCells,cellsOf,bytesOf,Function.comp_def]
theorem SC (ns:List Nat) : ∀ r:ByteArray,(ns.map (fun x:Nat=>(x:Int))).foldl (fun r n=>r.push (UInt8.ofNat n.toNat)) r=r++AM ns:=by
 induction ns with
 | nil=>intro r;apply ByteArray.ext;simp[AM]
 | cons n ns ih =>
  intro r;rw[List.map_cons,List.foldl_cons,ih];apply ByteArray.ext;simp[AM,ByteArray.data_append,ByteArray.data_push,Int.toNat_natCast]
theorem Kr {P:Program}{k:IntKind}{w:World}{B n:Nat}{b off:Nat}{xs:List Nat}(hr:Rd k w B (some ⟨b,off,none⟩) n xs) :
  (loadCells ⟨b,off,none⟩ n).run P w = .ok (cellsOf k xs).toArray w:=by
 have h:=run_loadCells_list (P:=P) w ⟨b,off,none⟩ (cellsOf k xs) (by
  intro j u hu;rw[DT] at hu;obtain ⟨x,hx,rfl⟩:=Option.map_eq_some_iff.1 hu;have h0:0 < n:=by
   have:=hr.1;have:=(List.getElem?_eq_some_iff.1 hx).1;omega
  obtain ⟨b',off',e,_,hc⟩:=hr.2 h0;injection e with e;injection e with e1 e2;subst e1 e2;rw[Kl];exact hc j x hx)
 rw[CK,hr.1] at h;exact h
theorem Hm {P:Program}{src dst e:TypeId}(hs:P.underlying src=some (.slice e))(he:P.underlying e=some (.int .u8))(hd:P.underlying dst=some .string)
  {w:World} {B n c:Nat} {A:Option Addr} {xs:List Nat} (hr:Rd .u8 w B A n xs):(convert src dst (.slice A n c)).run P w = .ok (.string (AM xs)) w:=by
 rw[run_convert_bytes_string w src dst e A n c hs he hd];rcases A with _ | ad
 ·have hm:n=0:=by
   rcases Nat.eq_zero_or_pos n with h0 | h0
   ·exact h0
   ·obtain ⟨_,_,h,_⟩:=hr.2 h0
    cases h
  subst hm;have hn:xs=[]:=List.eq_nil_of_length_eq_zero hr.1;subst hn
  rfl
 ·rcases Nat.eq_zero_or_pos n with h0 | h0
  ·subst h0
   have hn:xs=[]:=List.eq_nil_of_length_eq_zero hr.1;subst hn;have:=run_bytesToString (P:=P) w ad 0 c [] (run_loadCells_list (P:=P) w ad [] (by simp))
   rw[this]
   rfl
  ·obtain ⟨b,off,h,_,_⟩:=hr.2 h0
   injection h with h;subst h;have h:=run_bytesToString (P:=P) w ⟨b,off,none⟩ n c (xs.map fun x:Nat=>(x:Int)) (by
    rw[Kr hr];simp[cellsOf,Function.comp_def])
   rw[h,SC];congr 2
theorem Cw {P:Program}{ops:Array Oper}{rest:List Oper}{o:Oper}{a:Act}{Q:Exit→Act→World→Prop}{src dst e:TypeId}(hs:P.underlying src=some (.slice e))(he:P.underlying e=some (.int .u8))(hd:P.underlying dst=some .string)
  {w:World} {B n c:Nat} {A:Option Addr} {xs:List Nat} (hr:Rd .u8 w B A n xs) (hgd:o.guard=none) {x:Operand} (ho:o.op = .convert src dst x) (hx:a.eval x = .slice A n c)
  (h:wpList P ops Q rest (a.put o.dst (.string (AM xs))) w):wpList P ops Q (o::rest) a w:=by
 refine wpList_plain hgd fun K hK => ?_
 unfold Oper.wp execOp;simp only[ho,hx,Sem.run_bind,Hm (c:=c) hs he hd hr,Sem.run_pure,Result.andThen_ok];exact hK _ _ h
theorem BQ {P:Program}{ops:Array Oper}{rest:List Oper}{o:Oper}{a:Act}{Q:Exit→Act→World→Prop}{e t u:TypeId}(hE:CX P .u8 e 1)(ht:P.underlying t=some (.slice e))(hu:P.underlying u=some .string)
  {w0 w:World} {v:Value} {xs:List Nat} (hown:Own .u8 e w0 w v xs) {st:ByteArray}
  (hgd:o.guard=none) {s x:Operand} (ho:o.op = .call { callee := .builtin .append,args := #[s,x],argTypes := #[t,u] }) (hs:a.eval s=v) (hx:a.eval x = .string st)
  (hlen:xs.length+st.size≤140737488355328)
  (h : ∀ v' w',Own .u8 e w0 w' v' (xs++bytesOf st)→w.grownBy w' v.ownBlock→wpList P ops Q rest (a.put o.dst v') w'):wpList P ops Q (o::rest) a w:=by
 obtain ⟨i,hi,hz,hsize,hby⟩:=info_parts hE;refine Lib.wpList_append_own_string w hgd s x t u ho w0.heap.size e i ht hu hi hz hsize hby v xs.length (cellsOf .u8 xs) hs hown.1 st hx (by simp only[maxLen];omega) hlen hown.2.size ?_
 intro v' w' h2 h3 _;refine h v' w' ⟨?_,hown.2.grown h3 hown.2.size (fun g hg=>(hown.1.lt g hg).1)⟩ h3
 rw[List.length_append,Aq,GG,←Qe];exact h2
def Buf (k:IntKind)(e:TypeId)(w:World)(g:Nat)(xs:List Nat):Prop:=w.heap[g]? = some (.cells (cellsOf k xs).toArray e (0,0))
section
variable {k:IntKind}{e:TypeId}{w w':World}{g:Nat}{xs:List Nat}
theorem Buf.lt (h:Buf k e w g xs):g < w.heap.size:=(Array.getElem?_eq_some_iff.1 h).1
theorem Buf.cell (h:Buf k e w g xs){i:Nat}(hi:i < xs.length):w.cell? ⟨g,i,none⟩=some (.int k ((xs.getD i 0:Nat):Int)):=by
 have hc:=cell_of_row w g i _ e (0,0) h;rw[hc];simp[cellsOf,hi,List.getD_eq_getElem?_getD]
theorem Buf.cell' (h:Buf k e w g xs)(i x:Nat)(hx:xs[i]? = some x):w.cell? ⟨g,i,none⟩=some (.int k (x:Int)):=by
 have hc:=cell_of_row w g i _ e (0,0) h;rw[hc];simp[cellsOf,hx]
theorem Buf.frozen (h:Buf k e w g xs)(i:Nat):w.frozen? ⟨g,i,none⟩=false:=by
 unfold Buf at h;simp[World.frozen?,h]
theorem Buf.drew (h:Buf k e w g xs):Buf k e w.drew g xs:=h
theorem Buf.drewN (h:Buf k e w g xs)(n:Nat):Buf k e (w.drewN n) g xs:=h
theorem Buf.set_ (h:Buf k e w g xs)(i y:Nat):Buf k e (w.setCell ⟨g,i,none⟩ (.int k (y:Int))) g (xs.set i y):=by
 unfold Buf at h ⊢;simp only[World.setCell,Array.getElem?_modify,h,if_true,Option.map_some];congr 1;simp[cellsOf,List.map_set]
theorem Buf.far (h:Buf k e w g xs){p:Addr}(hp:g≠p.block)(u:Value):Buf k e (w.setCell p u) g xs:=(Below.heap_setCell w p u g hp).trans h
theorem Buf.below {B:Nat}(h:Buf k e w g xs)(hb:Below B w w')(hg:g < B):Buf k e w' g xs:=(hb.block g hg).trans h
theorem Buf.call (h:Buf k e w g xs)(hb:Below w.heap.size w w'):Buf k e w' g xs:=(hb.block g h.lt).trans h
theorem Buf.rd (h:Buf k e w g xs):Rd k w w.heap.size (some ⟨g,0,none⟩) xs.length xs :=
 ⟨rfl,fun _=>⟨g,0,rfl,h.lt,fun j x hx=>by rw[Nat.zero_add];exact h.cell' j x hx⟩⟩
theorem Buf.own {w0:World}(h:Buf k e w g xs)(hb:Below w0.heap.size w0 w)(hg:w0.heap.size≤g)(hm:xs.length≤maxLen):Own k e w0 w (.slice (some ⟨g,0,none⟩) xs.length xs.length) xs:=by
 refine ⟨⟨by simp[cellsOf],.inr ⟨g,xs.length,_,rfl,hg,h,Nat.le_refl _,hm,by simp[cellsOf],?_⟩⟩,hb⟩
 rw[Nat.mul_one];exact List.take_of_length_le (by simp[cellsOf])
end
theorem Lv (k:IntKind)(n:Nat):madeCells (Value.int k 0).cells (n*1)=(cellsOf k (List.replicate n 0)).toArray:=by
 apply Array.ext';have h:=toList_madeCells_one (.int k 0) (n*1);have e:(Value.int k 0).cells = #[.int k 0]:=rfl;rw[e,h];simp[cellsOf]
theorem AV {P:Program}{ops:Array Oper}{rest:List Oper}{o:Oper}{a:Act}{Q:Exit→Act→World→Prop}{k:IntKind}{e t:TypeId}{bytes:Nat}(hE:CX P k e bytes)(ht:P.underlying t=some (.slice e)){w:World}{n c:Nat}{kx ky:IntKind}{x y:Operand}
  (hgd:o.guard=none) (ho:o.op = .makeSlice t x y) (hx:a.eval x = .int kx (n:Int)) (hy:a.eval y = .int ky (c:Int)) (hnc:n≤c) (hb:c*bytes≤281474976710656) (hm:c≤9223372036854775807)
  (h : ∀ w',Buf k e w' w.heap.size (List.replicate c 0)→Below w.heap.size w w'→w.heap.size < w'.heap.size→wpList P ops Q rest (a.put o.dst (.slice (some ⟨w.heap.size,0,none⟩) n c)) w'):wpList P ops Q (o::rest) a w:=by
 obtain ⟨i,hi,hz,hsize,hby⟩:=info_parts hE;have hb':(i.bytes:Int)*(c:Int)≤281474976710656:=by
  have h:((i.bytes*c:Nat):Int)≤281474976710656:=by rw[hby,Nat.mul_comm];omega
  rwa [Int.natCast_mul] at h
 have hr:=run_make (P:=P) w t e i (.int k 0) ht hi hz kx ky n c (by omega) (by omega) hb' (by omega)
 simp only[Int.toNat_natCast,hsize,Lv] at hr;refine wpList_plain hgd fun K hK => ?_
 unfold Oper.wp execOp;simp only[ho,hx,hy,Sem.run_bind,hr,Sem.run_pure,Result.andThen_ok];exact hK _ _ (h _ (heap_alloc_new w _) ((Below.refl _ _).alloc (Nat.le_refl _) _) (by simp))
theorem D6 {P:Program}{ops:Array Oper}{rest:List Oper}{o:Oper}{a:Act}{Q:Exit→Act→World→Prop}{k:IntKind}{ty:TypeId}{xs:List Nat}{w:World}
  (hz:(zeroValue ty).run P w = .ok (.agg (cellsOf k xs).toArray) w) (hgd:o.guard=none) (ho:o.op = .alloc ty)
  (h : ∀ w',Buf k ty w' w.heap.size xs→Below w.heap.size w w'→w.heap.size < w'.heap.size→wpList P ops Q rest (a.put o.dst (.pointer (some ⟨w.heap.size,0,none⟩))) w'):wpList P ops Q (o::rest) a w:=by
 refine wpList_plain hgd fun K hK => ?_
 have hr:(Instr.alloc ty true (.tuple #[])).run P w = .ok (.pointer (some ⟨w.heap.size,0,none⟩)) (w.alloc (.cells (cellsOf k xs).toArray ty)):=by
  simp only[Instr.alloc,Sem.run_bind,hz,Result.andThen_ok]
  rfl
 unfold Oper.wp execOp;simp only[ho,Sem.run_bind,hr,Sem.run_pure,Result.andThen_ok];exact hK _ _ (h _ (heap_alloc_new w _) ((Below.refl _ _).alloc (Nat.le_refl _) _) (by simp))
theorem R7 (k:IntKind)(xs:List Nat):(cellsOf k xs).toArray.all (·.oneCell')=true:=by
 rw[Array.all_eq_true_iff_forall_mem];intro x hx;exact Lm k xs x (by simpa using hx)
theorem Lr {P:Program}{ops:Array Oper}{rest:List Oper}{o:Oper}{a:Act}{Q:Exit→Act→World→Prop}{k:IntKind}{e ty:TypeId}{w:World}{g:Nat}{xs:List Nat}{d:TypeDesc}(hb:Buf k e w g xs)
  (hu:P.underlying ty=some d) (hd:(match d with | .struct _ | .array _ _=>true | _=>false)=true) (hi:(P.info? ty).map (·.size)=some xs.length)
  (hgd:o.guard=none) {x:Operand} (ho:o.op = .load ty x) (hx:a.eval x = .pointer (some ⟨g,0,none⟩))
  (h:wpList P ops Q rest (a.put o.dst (.agg (cellsOf k xs).toArray)) w):wpList P ops Q (o::rest) a w :=
 wpList_load_row hgd ty x ho g hx e _ (0,0) d hb hu hd (by rw[hi];simp[cellsOf]) h
theorem Fo {P:Program}{ops:Array Oper}{rest:List Oper}{o:Oper}{a:Act}{Q:Exit→Act→World→Prop}{k:IntKind}{e ty:TypeId}{w:World}{g:Nat}{xs ys:List Nat}(hb:Buf k e w g xs)(hl:xs.length=ys.length)
  (hi:(P.info? ty).map (·.size)=some ys.length) (hgd:o.guard=none) {x y:Operand} (ho:o.op = .store ty x y) (hx:a.eval x = .pointer (some ⟨g,0,none⟩)) (hy:a.eval y = .agg (cellsOf k ys).toArray)
  (h : ∀ w',Buf k e w' g ys→w.grownBy w' (some g)→w'.heap.size=w.heap.size→wpList P ops Q rest (a.put o.dst undef) w'):wpList P ops Q (o::rest) a w:=by
 refine wpList_store_row hgd ty x y ho g _ hx hy e _ hb (by rw[hi];simp[cellsOf]) (by simp[cellsOf,hl]) (R7 k ys) (h _ ?_ ?_ ?_)
 ·exact setRow_heap w g _ _ e _ hb
 ·exact ⟨rfl,rfl,rfl,by simp,fun j _ hj=>setRow_other w g j _ (fun e=>hj (by simp[e]))⟩
 ·simp
theorem Fe {B:Nat}{w0 w w':World}{g:Nat}(h:Below B w0 w)(hg:w.grownBy w' (some g))(hB:B≤w.heap.size)(hgB:B≤g):Below B w0 w' :=
 h.grown hg hB (fun _ hk=>by injection hk with hk;omega)
theorem Rd.block (k:IntKind)(w:World)(e:TypeId)(fr:Nat×Nat)(xs:List Nat)(C:Array Value)(hC:C=(cellsOf k xs).toArray):Rd k (w.alloc (.cells C e fr)) (w.heap.size+1) (some ⟨w.heap.size,0,none⟩) xs.length xs:=by
 subst hC;refine ⟨rfl,fun _=>⟨_,_,rfl,by omega,fun j x hx => ?_⟩⟩
 rw[Nat.zero_add];have h:(w.alloc (.cells (cellsOf k xs).toArray e fr)).heap[w.heap.size]? = some (.cells (cellsOf k xs).toArray e fr):=heap_alloc_new w _;rw[cell_of_row _ _ j _ e fr h];simp[cellsOf,hx]
theorem Cy (xs:List Nat)(k:Nat)(h:k < xs.length):xs.take (k+1)=xs.take k++[xs.getD k 0]:=by
 rw[List.take_succ_eq_append_getElem h,List.getD_eq_getElem?_getD,List.getElem?_eq_getElem h];rfl
theorem D0 (xs:List Nat)(k b:Nat)(h : ∀ x∈xs,x < b)(hb:0 < b):xs.getD k 0 < b:=by
 rw[List.getD_eq_getElem?_getD];cases e:xs[k]? with
 | none=>simpa using hb
 | some y=>exact h y (List.mem_of_getElem? e)
theorem Rd.sliced {k:IntKind}{w:World}{B n:Nat}{A:Option Addr}{xs:List Nat}(h:Rd k w B A n xs){l j m:Nat}(hl:l≤j)(hj:j≤n)(hm:j≤m) :
  ∃ A',sliced A l j m 1 = .slice A' (j - l) (m - l)∧Rd k w B A' (j - l) ((xs.drop l).take (j - l)):=by
 by_cases e:m=l
 ·obtain rfl:j=l:=by omega
  refine ⟨_,rfl,by simp,fun h0=>by omega⟩
 ·refine ⟨_,rfl,by rw[List.length_take,List.length_drop,h.1];omega,fun hn => ?_⟩
  obtain ⟨b,off,rfl,hb,hc⟩:=h.2 (by omega)
  rw[if_neg e];refine ⟨b,off+l,by simp[Kl],hb,fun q x hx => ?_⟩
  rw[List.getElem?_take] at hx;split at hx
  ·rw[List.getElem?_drop] at hx
   rw[Nat.add_assoc];exact hc _ _ hx
  ·cases hx
theorem FN {P:Program}{k:IntKind}{e t:TypeId}{bytes:Nat}(hE:CX P k e bytes)(ht:P.underlying t=some (.slice e))(w:World):P.underlying t=some (.slice (P.elem t))∧(sizeOf (P.elem t)).run P w = .ok 1 w:=by
 have he:P.elem t=e:=by simp[Program.elem,ht]
 obtain ⟨i,hi,_,hs,_⟩:=info_parts hE;rw[he];exact ⟨ht,by simp[sizeOf,typeInfo,hi,hs]⟩
theorem Hj {P:Program}{ops:Array Oper}{rest:List Oper}{o:Oper}{a:Act}{Q:Exit→Act→World→Prop}{k:IntKind}{e t:TypeId}{bytes:Nat}(hE:CX P k e bytes)(ht:P.underlying t=some (.slice e))
  {w:World} {B n c:Nat} {A:Option Addr} {xs:List Nat} (hr:Rd k w B A n xs) {x lo hi:Operand} {klo khi:IntKind} {l j:Nat} (hgd:o.guard=none) (ho:o.op = .slice t x (some lo) (some hi) none) (hx:a.eval x = .slice A n c) (hlo:a.eval lo = .int klo (l:Int)) (hhi:a.eval hi = .int khi (j:Int)) (h1:l≤j) (h2:j≤n) (h3:n≤c)
  (h : ∀ A',Rd k w B A' (j - l) ((xs.drop l).take (j - l))→wpList P ops Q rest (a.put o.dst (.slice A' (j - l) (c - l))) w):wpList P ops Q (o::rest) a w:=by
 refine wpList_plain hgd fun K hK => ?_
 obtain ⟨h5,h6⟩:=FN hE ht w;obtain ⟨A',hs,hr'⟩:=hr.sliced (l:=l) (j:=j) (m:=c) (by omega) (by omega) (by omega)
 have hrun:=run_slice_lh (P:=P) w t A n c h5 klo khi (l:Int) (j:Int) (by omega) (by omega) (by omega)
 simp only[Int.toNat_natCast,h6,Result.andThen_ok,hs] at hrun;have hrun2:=(run_sliceAt_slice (P:=P) w t (.slice A n c) (some (.int klo (l:Int))) (some (.int khi (j:Int))) none h5).trans hrun;unfold Oper.wp execOp;simp only[ho,hx,hlo,hhi,Option.map_some,Option.map_none,Sem.run_bind,hrun2,Sem.run_pure,Result.andThen_ok];refine hK _ _ ?_;exact h A' hr'
theorem O2 {P:Program}{ops:Array Oper}{rest:List Oper}{o:Oper}{a:Act}{Q:Exit→Act→World→Prop}{k:IntKind}{e t:TypeId}{bytes:Nat}(hE:CX P k e bytes)(ht:P.underlying t=some (.slice e))
  {w:World} {B n c:Nat} {A:Option Addr} {xs:List Nat} (hr:Rd k w B A n xs) {x hi:Operand} {khi:IntKind} {j:Nat} (hgd:o.guard=none) (ho:o.op = .slice t x none (some hi) none) (hx:a.eval x = .slice A n c) (hhi:a.eval hi = .int khi (j:Int)) (h2:j≤n) (h3:n≤c)
  (h : ∀ A',Rd k w B A' j (xs.take j)→wpList P ops Q rest (a.put o.dst (.slice A' (j) (c))) w):wpList P ops Q (o::rest) a w:=by
 refine wpList_plain hgd fun K hK => ?_
 obtain ⟨h5,h6⟩:=FN hE ht w;obtain ⟨A',hs,hr'⟩:=hr.sliced (l:=0) (j:=j) (m:=c) (by omega) (by omega) (by omega)
 have hrun:=run_slice_h (P:=P) w t A n c h5 khi (j:Int) (by omega) (by omega)
 simp only[Int.toNat_natCast,h6,Result.andThen_ok,hs] at hrun;have hrun2:=(run_sliceAt_slice (P:=P) w t (.slice A n c) none (some (.int khi (j:Int))) none h5).trans hrun;unfold Oper.wp execOp;simp only[ho,hx,hhi,Option.map_some,Option.map_none,Sem.run_bind,hrun2,Sem.run_pure,Result.andThen_ok];refine hK _ _ ?_;simp only[Nat.sub_zero,List.drop_zero] at hr' ⊢;exact h A' hr'
theorem DY {P:Program}{ops:Array Oper}{rest:List Oper}{o:Oper}{a:Act}{Q:Exit→Act→World→Prop}{k:IntKind}{e t:TypeId}{bytes:Nat}(hE:CX P k e bytes)(ht:P.underlying t=some (.slice e))
  {w:World} {B n c:Nat} {A:Option Addr} {xs:List Nat} (hr:Rd k w B A n xs) {x lo:Operand} {klo:IntKind} {l:Nat} (hgd:o.guard=none) (ho:o.op = .slice t x (some lo) none none) (hx:a.eval x = .slice A n c) (hlo:a.eval lo = .int klo (l:Int)) (h1:l≤n) (h3:n≤c)
  (h : ∀ A',Rd k w B A' (n - l) (xs.drop l)→wpList P ops Q rest (a.put o.dst (.slice A' (n - l) (c - l))) w):wpList P ops Q (o::rest) a w:=by
 refine wpList_plain hgd fun K hK => ?_
 obtain ⟨h5,h6⟩:=FN hE ht w;obtain ⟨A',hs,hr'⟩:=hr.sliced (l:=l) (j:=n) (m:=c) (by omega) (by omega) (by omega)
 have hrun:=run_slice_l (P:=P) w t A n c h5 klo (l:Int) (by omega) (by omega)
 simp only[Int.toNat_natCast,h6,Result.andThen_ok,hs] at hrun;have hrun2:=(run_sliceAt_slice (P:=P) w t (.slice A n c) (some (.int klo (l:Int))) none none h5).trans hrun;unfold Oper.wp execOp;simp only[ho,hx,hlo,Option.map_some,Option.map_none,Sem.run_bind,hrun2,Sem.run_pure,Result.andThen_ok];refine hK _ _ ?_;rw[List.take_of_length_le (by rw[List.length_drop,hr.1];omega)] at hr'
 exact h A' hr'
theorem Lw {w w':World}(g:w.grownBy w' (Value.slice none 0 0).ownBlock):Below w.heap.size w w' :=
 (Below.refl _ _).grown g (Nat.le_refl _) (fun _ h=>by simp[Value.ownBlock] at h)
theorem Buf.ownTake {k:IntKind}{e:TypeId}{w0 w:World}{g:Nat}{xs:List Nat}(h:Buf k e w g xs)(hb:Below w0.heap.size w0 w)(hg:w0.heap.size≤g)(hm:xs.length≤maxLen){n:Nat}(hn:n≤xs.length) :
  Own k e w0 w (.slice (some ⟨g,0,none⟩) n xs.length) (xs.take n):=by
 have hl:(xs.take n).length=n:=by rw[List.length_take];omega
 refine ⟨⟨by rw[CK];omega,.inr ⟨g,xs.length,_,by rw[hl],hg,h,by omega,hm,by simp[cellsOf],?_⟩⟩,hb⟩
 rw[Nat.mul_one,hl];simp[cellsOf,List.map_take]
theorem Buf.own0 {k:IntKind}{e:TypeId}{w:World}{g c:Nat}{w0:World}(h:Buf k e w g (List.replicate c 0))(hb:Below w0.heap.size w0 w)(hg:w0.heap.size≤g)(hm:c≤9223372036854775807) :
  Own k e w0 w (.slice (some ⟨g,0,none⟩) 0 c) []:=by
 have:=h.ownTake hb hg (by rw[List.length_replicate];unfold maxLen;omega) (n:=0) (by omega)
 rwa [List.length_replicate,List.take_zero] at this
theorem BJ (xs:List Nat)(k:Nat)(h:k < xs.length):xs.drop k=xs.getD k 0::xs.drop (k+1):=by
 rw[List.drop_eq_getElem_cons h,List.getD_eq_getElem?_getD,List.getElem?_eq_getElem h];rfl
end Go.Proofs.YtdgbealknnmkoaaGreatDoor
namespace Go.Proofs.YtdgbealknnmkoaaGreatDoor
def val:List Nat→Nat
 | []=>0
 | d::ds=>d+4294967296*val ds
def Ae (n:Nat):List Nat:=if n=0 then [] else (n % 4294967296)::Ae (n / 4294967296)
 termination_by n
 decreasing_by omega
def W32 (xs:List Nat):Prop := ∀ x∈xs,x < 4294967296
theorem AY:Ae 0=[]:=by rw[Ae,if_pos rfl]
theorem Ci {n:Nat}(h:n≠0):Ae n=(n % 4294967296)::Ae (n / 4294967296):=by rw[Ae,if_neg h]
theorem O3:val []=0:=rfl
theorem Bq (d:Nat)(ds:List Nat):val (d::ds)=d+4294967296*val ds:=rfl
theorem C6 (xs ys:List Nat):val (xs++ys)=val xs+4294967296 ^ xs.length*val ys:=by
 induction xs with
 | nil=>simp[val]
 | cons x xs ih =>
  rw[List.cons_append,Bq,ih,Bq,List.length_cons,Nat.pow_succ,Nat.mul_add,Nat.add_assoc,Nat.mul_comm (4294967296 ^ xs.length) 4294967296,Nat.mul_assoc]
theorem An (n:Nat):val (Ae n)=n:=by
 induction n using Nat.strongRecOn with
 | _ n ih =>
  by_cases h:n=0
  ·subst h;rw[AY];rfl
  ·rw[Ci h,Bq,ih (n / 4294967296) (by omega)];omega
theorem Ai (n:Nat):W32 (Ae n):=by
 induction n using Nat.strongRecOn with
 | _ n ih =>
  by_cases h:n=0
  ·subst h;rw[AY];intro x hx;simp at hx
  ·rw[Ci h]
   intro x hx;rcases List.mem_cons.1 hx with rfl | hx
   ·omega
   ·exact ih (n / 4294967296) (by omega) x hx
theorem W32.cons {d:Nat}{ds:List Nat}(h:W32 (d::ds)):d < 4294967296∧W32 ds:=⟨h d List.mem_cons_self,fun x hx=>h x (List.mem_cons_of_mem _ hx)⟩
theorem W32.mk {d:Nat}{ds:List Nat}(h:d < 4294967296)(hs:W32 ds):W32 (d::ds):=fun x hx=>by
 rcases List.mem_cons.1 hx with rfl | hx
 ·exact h
 ·exact hs x hx
theorem W32.append {xs ys:List Nat}(h:W32 xs)(hs:W32 ys):W32 (xs++ys):=fun x hx=>(List.mem_append.1 hx).elim (h x) (hs x)
theorem W32.take {xs:List Nat}(n:Nat)(h:W32 xs):W32 (xs.take n):=fun x hx=>h x (List.mem_of_mem_take hx)
theorem W32.drop {xs:List Nat}(n:Nat)(h:W32 xs):W32 (xs.drop n):=fun x hx=>h x (List.mem_of_mem_drop hx)
theorem W32.set {xs:List Nat}{y:Nat}(n:Nat)(h:W32 xs)(hy:y < 4294967296):W32 (xs.set n y):=fun x hx=>by
 rcases List.mem_or_eq_of_mem_set hx with h1 | h1
 ·exact h x h1
 ·omega
theorem W32.getD {xs:List Nat}(h:W32 xs)(k:Nat):xs.getD k 0 < 4294967296:=D0 xs k 4294967296 h (by omega)
theorem W32.nil:W32 []:=fun x hx=>by simp at hx
theorem W32.rep (n:Nat):W32 (List.replicate n 0):=fun x hx=>by rw[(List.mem_replicate.1 hx).2];omega
theorem BP : ∀ {xs:List Nat},W32 xs→val xs < 4294967296 ^ xs.length
 | [],_=>by simp[val]
 | x::xs,h=>by
  have ih:=BP h.cons.2;have hx:=h.cons.1;rw[Bq,List.length_cons,Nat.pow_succ];omega
theorem Jt (n:Nat):val (List.replicate n 0)=0:=by
 induction n with
 | zero=>rfl
 | succ n ih=>rw[List.replicate_succ,Bq,ih]
theorem Lu {xs:List Nat}(h:W32 xs)(hv:val xs=0) : ∀ x∈xs,x=0:=by
 induction xs with
 | nil=>simp
 | cons x xs ih =>
  rw[Bq] at hv;intro y hy;rcases List.mem_cons.1 hy with rfl | hy
  ·omega
  ·exact ih h.cons.2 (by omega) y hy
theorem SM (xs:List Nat)(h:W32 xs)(ht:xs=[]∨xs.getLast? ≠ some 0):Ae (val xs)=xs:=by
 induction xs with
 | nil=>exact AY
 | cons x xs ih =>
  have hx:=h.cons.1;have hne:val (x::xs)≠0:=by
   intro h0;have hz:=Lu h h0;rcases ht with ht | ht
   ·cases ht
   ·apply ht
    rw[List.getLast?_eq_getElem?];have hl:(x::xs).length - 1 < (x::xs).length:=by simp
    rw[List.getElem?_eq_getElem hl];congr 1;exact hz _ (List.getElem_mem hl)
  rw[Ci hne,Bq];rw[show (x+4294967296*val xs) % 4294967296=x by omega,show (x+4294967296*val xs) / 4294967296=val xs by omega,ih h.cons.2]
  cases xs with
  | nil=>exact .inl rfl
  | cons y ys =>
   right;rcases ht with ht | ht
   ·cases ht
   ·simpa using ht
theorem Rp (n : Nat) : Ae n = [] ∨ (Ae n).getLast? ≠ some 0 := by
 induction n using Nat.strongRecOn with
 | _ n ih =>
  by_cases h:n=0
  ·left;subst h;exact AY
  ·right
   rw[Ci h];by_cases h2:n / 4294967296=0
   ·rw[h2,AY]
    simp;omega
   ·rcases ih (n / 4294967296) (by omega) with h3 | h3
    ·rw[Ci h2] at h3;cases h3
    ·cases e:Ae (n / 4294967296) with
     | nil=>rw[Ci h2] at e;cases e
     | cons y ys=>rw[e] at h3;simpa using h3
theorem Wb (xs:List Nat)(n:Nat)(hz : ∀ j,n≤j→xs.getD j 0=0):val (xs.take n)=val xs:=by
 induction xs generalizing n with
 | nil=>simp
 | cons x xs ih =>
  cases n with
  | zero =>
   have h0:=hz 0 (by omega)
   rw[List.take_zero,Bq];have h1:=ih 0 (fun j hj=>by have:=hz (j+1) (by omega);simpa using this)
   rw[List.take_zero] at h1;simp at h0;rw[←h1,h0];rfl
  | succ n =>
   rw[List.take_succ_cons,Bq,Bq,ih n (fun j hj=>by have:=hz (j+1) (by omega);simpa using this)]
theorem DN (xs:List Nat)(h:W32 xs)(n:Nat)(hn:n≤xs.length)(hz : ∀ j,n≤j→xs.getD j 0=0)(hl:n=0∨xs.getD (n - 1) 0≠0):xs.take n=Ae (val xs):=by
 rw[←Wb xs n hz,SM (xs.take n) (h.take n)];rcases hl with hl | hl
 ·left;rw[hl,List.take_zero]
 ·right
  by_cases hn0:n=0
  ·subst hn0;simp
  ·rw[List.getLast?_eq_getElem?,List.length_take,Nat.min_eq_left hn,List.getElem?_take,if_pos (by omega)]
   intro h0;apply hl;rw[List.getD_eq_getElem?_getD,h0];rfl
theorem B6 {n k:Nat}(h:n < 4294967296 ^ k):(Ae n).length≤k:=by
 induction k generalizing n with
 | zero =>
  have:n=0:=by simpa using h
  subst this;rw[AY];simp
 | succ k ih =>
  by_cases h0:n=0
  ·subst h0;rw[AY];simp
  ·rw[Ci h0,List.length_cons]
   have:=ih (n:=n / 4294967296) (by rw[Nat.pow_succ] at h;omega)
   omega
theorem Ca (n:Nat):n < 4294967296 ^ (Ae n).length:=by
 have:=BP (Ai n)
 rwa [An] at this
theorem KH {n:Nat}(h:n≠0):4294967296 ^ ((Ae n).length - 1)≤n:=by
 induction n using Nat.strongRecOn with
 | _ n ih =>
  rw[Ci h,List.length_cons,Nat.add_sub_cancel];by_cases h2:n / 4294967296=0
  ·rw[h2,AY];simp;omega
  ·have:=ih (n / 4294967296) (by omega) h2
   rw[Ci h2] at this ⊢;rw[List.length_cons,Nat.add_sub_cancel] at this;rw[List.length_cons,Nat.pow_succ];omega
theorem AW {a b:Nat}(h:a≤b):(Ae a).length≤(Ae b).length:=B6 (Nat.lt_of_le_of_lt h (Ca b))
theorem AQ (n:Nat):(Ae n).length=0↔n=0:=by
 constructor
 ·intro h
  have:=Ca n;rw[h] at this
  simpa using this
 ·rintro rfl;rw[AY];rfl
end Go.Proofs.YtdgbealknnmkoaaGreatDoor
namespace Go.Proofs.YtdgbealknnmkoaaGreatDoor
open Go.RowKit
def fill (ds:List Nat)(N:Nat):List Nat:=ds++List.replicate (N - ds.length) 0
theorem D1 (N:Nat):fill [] N=List.replicate N 0:=by simp[fill]
theorem CB {ds:List Nat}{N:Nat}(h:ds.length≤N):(fill ds N).length=N:=by simp[fill];omega
theorem CA {ds:List Nat}{N i:Nat}(d:Nat)(h:i < N)(hi:ds.length=i):(fill ds N).set i d=fill (ds++[d]) N:=by
 subst hi;unfold fill;rw[List.set_append_right _ _ (by omega),Nat.sub_self,show N - ds.length=(N - (ds++[d]).length)+1 by simp;omega,List.replicate_succ,List.set_cons_zero,List.append_assoc]
 rfl
theorem CV {ds:List Nat}{N:Nat}(h:ds.length=N):fill ds N=ds:=by simp[fill,h]
theorem Buf.setZ {k:IntKind}{e:TypeId}{w:World}{g:Nat}{xs:List Nat}(h:Buf k e w g xs)(i:Nat){z:Int}{y:Nat}(hz:z=(y:Int)):Buf k e (w.setCell ⟨g,i,none⟩ (.int k z)) g (xs.set i y):=by
 subst hz;exact h.set_ i y
theorem BO (ds:List Nat)(d:Nat):val (ds++[d])=val ds+4294967296 ^ ds.length*d:=by
 rw[C6,Bq,O3];simp
theorem Av (xs:List Nat)(i:Nat):val (xs.take (i+1))=val (xs.take i)+4294967296 ^ i*xs.getD i 0:=by
 by_cases h:i < xs.length
 ·rw[Cy xs i h,BO,List.length_take,Nat.min_eq_left (by omega)]
 ·rw[List.take_of_length_le (by omega),List.take_of_length_le (by omega),List.getD_eq_getElem?_getD,List.getElem?_eq_none (by omega)];simp
theorem C5 (xs:List Nat)(i:Nat)(h:xs.length≤i):xs.getD i 0=0:=by
 rw[List.getD_eq_getElem?_getD,List.getElem?_eq_none h];rfl
theorem Kk {P v cr a b x y:Nat}(h:v+P*cr=a+b):v+P*((cr+x+y) % 4294967296)+P*4294967296*((cr+x+y) / 4294967296)=(a+P*x)+(b+P*y):=by
 have e:P*((cr+x+y) % 4294967296)+P*4294967296*((cr+x+y) / 4294967296)=P*(cr+x+y):=by
  rw[Nat.mul_assoc,←Nat.mul_add,Nat.mod_add_div]
 rw[Nat.add_assoc,e,Nat.mul_add,Nat.mul_add];omega
theorem LW {P v br a b x y:Nat}(h:a+P*br=v+b)(hx:x < 4294967296)(hy:y < 4294967296)(hbr:br≤1) :
  a+P*x+P*4294967296*(if x < br+y then 1 else 0)=v+P*((x+4294967296 - br - y) % 4294967296)+(b+P*y):=by
 split
 ·rename_i hlt
  rw[Nat.mod_eq_of_lt (by omega),Nat.mul_one]
  have e:P*x+P*4294967296=P*(x+4294967296 - br - y)+P*br+P*y:=by
   rw[←Nat.mul_add,←Nat.mul_add,←Nat.mul_add];congr 1;omega
  omega
 ·rename_i hlt
  rw[show x+4294967296 - br - y=(x - br - y)+4294967296 by omega,Nat.add_mod_right,Nat.mod_eq_of_lt (by omega),Nat.mul_zero]
  have e:P*x=P*(x - br - y)+P*br+P*y:=by
   rw[←Nat.mul_add,←Nat.mul_add];congr 1;omega
  omega
theorem Qc (x y br:Nat)(hx:x < 4294967296)(hy:y < 4294967296)(hbr:br≤1):((x:Int) - (br:Int) - (y:Int)) % 4294967296=((((x+4294967296 - br - y) % 4294967296:Nat)):Int):=by omega
theorem DJ : ∀ (zs:List Nat) (p v:Nat),p < zs.length→val (zs.set p v)+4294967296 ^ p*zs.getD p 0=val zs+4294967296 ^ p*v
 | [],_,_,h=>by simp at h
 | z::zs,0,v,_=>by simp[val];omega
 | z::zs,p+1,v,h=>by
  have ih:=DJ zs p v (by simpa using h)
  rw[List.set_cons_succ,Bq,Bq,List.getD_cons_succ,Nat.pow_succ];have e1:4294967296 ^ p*4294967296*zs.getD p 0=4294967296*(4294967296 ^ p*zs.getD p 0):=by rw[Nat.mul_comm (4294967296 ^ p) 4294967296,Nat.mul_assoc]
  have e2:4294967296 ^ p*4294967296*v=4294967296*(4294967296 ^ p*v):=by rw[Nat.mul_comm (4294967296 ^ p) 4294967296,Nat.mul_assoc]
  rw[e1,e2];omega
theorem Ep {d f:Nat}(hd:d < 4294967296)(hf:f < 4294967296):d*f≤18446744065119617025:=by
 have:=Nat.mul_le_mul (show d≤4294967295 by omega) (show f≤4294967295 by omega)
 omega
theorem NO {d f z cr:Nat}(hd:d < 4294967296)(hf:f < 4294967296)(hz:z < 4294967296)(hcr:cr < 4294967296) : ∃ p s1 s2:Nat,IntKind.u64.wrap ((d:Int)*(f:Int))=(p:Int)∧IntKind.u64.wrap ((p:Int)+(z:Int))=(s1:Int)∧IntKind.u64.wrap ((cr:Int)+(s1:Int))=(s2:Int) ∧
  s2=cr+d*f+z∧s2 / 4294967296 < 4294967296∧s2 % 4294967296 < 4294967296:=by
 have hb:=Ep hd hf;have e:((d*f:Nat):Int)=(d:Int)*(f:Int):=by simp
 refine ⟨d*f,d*f+z,cr+(d*f+z),?_,?_,?_,by omega,by omega,by omega⟩
 ·rw[←e,IntKind.wrap_u64];omega
 ·rw[IntKind.wrap_u64];omega
 ·rw[IntKind.wrap_u64];omega
theorem Mz {V V0 P Pi cr d y f z Z:Nat}(h:V+P*cr=V0+Pi*(d*y))(hP:P=Pi*Z)(s:Nat)(hs:s=cr+d*f+z) :
  (V+P*(s % 4294967296))+P*4294967296*(s / 4294967296)=V0+Pi*(d*(y+Z*f))+P*z:=by
 have e:P*(s % 4294967296)+P*4294967296*(s / 4294967296)=P*s:=by rw[Nat.mul_assoc,←Nat.mul_add,Nat.mod_add_div]
 have e2:Pi*(d*(y+Z*f))=Pi*(d*y)+P*(d*f):=by
  rw[hP,Nat.mul_add,Nat.mul_add];congr 1;rw[Nat.mul_assoc];congr 1;rw[←Nat.mul_assoc,Nat.mul_comm d Z,Nat.mul_assoc]
 rw[Nat.add_assoc,e,e2,hs,Nat.mul_add,Nat.mul_add];omega
end Go.Proofs.YtdgbealknnmkoaaGreatDoor
namespace Go.Proofs.YtdgbealknnmkoaaGreatDoor
structure Kn (P vl ul v2 v1 u2 u1 u0 V U:Nat):Prop where
 hvl:vl < P
 hul:ul < P
 hv2:v2 < 4294967296
 hv1:v1 < 4294967296
 hnrm:2147483648≤v1
 hu2:u2 < 4294967296
 hu1:u1 < 4294967296
 hV:V=vl+P*(v2+4294967296*v1)
 hU:U=ul+P*(u2+4294967296*(u1+4294967296*u0))
 hlt:U < V*4294967296
section
variable {P vl ul v2 v1 u2 u1 u0 V U:Nat}
theorem Kn.vpos (h:Kn P vl ul v2 v1 u2 u1 u0 V U):0 < V:=by
 have:=h.hlt;rcases Nat.eq_zero_or_pos V with e | e
 ·rw[e] at this;omega
 ·exact e
theorem Kn.qlt (h:Kn P vl ul v2 v1 u2 u1 u0 V U):U / V < 4294967296:=Nat.div_lt_of_lt_mul (by have:=h.hlt;omega)
theorem Kn.top (h:Kn P vl ul v2 v1 u2 u1 u0 V U):u0≤v1:=by
 have hlt:=h.hlt;have hv2:=h.hv2;have h1:P*(u2+4294967296*(u1+4294967296*u0))≤U:=by rw[h.hU];omega
 have h2:V < P*(v2+4294967296*v1+1):=by rw[h.hV,Nat.mul_succ];have:=h.hvl;omega
 have h3:P*(u2+4294967296*(u1+4294967296*u0)) < P*((v2+4294967296*v1+1)*4294967296):=by
  rw[←Nat.mul_assoc];have:V*4294967296 < P*(v2+4294967296*v1+1)*4294967296:=Nat.mul_lt_mul_of_pos_right h2 (by omega)
  omega
 have h4:=Nat.lt_of_mul_lt_mul_left h3;omega
theorem Kn.qX (h:Kn P vl ul v2 v1 u2 u1 u0 V U):U / V*(v2+4294967296*v1)≤u2+4294967296*(u1+4294967296*u0):=by
 have hq:U / V*V≤U:=Nat.div_mul_le_self _ _;generalize U / V=q at *;have h1:P*(q*(v2+4294967296*v1))≤q*V:=by
  rw[h.hV];generalize v2+4294967296*v1=X;rw[Nat.mul_add q vl,←Nat.mul_assoc q P,Nat.mul_comm q P,Nat.mul_assoc];omega
 have h2:U < P*(u2+4294967296*(u1+4294967296*u0)+1):=by rw[h.hU,Nat.mul_succ];have:=h.hul;omega
 have h3:P*(q*(v2+4294967296*v1)) < P*(u2+4294967296*(u1+4294967296*u0)+1):=by omega
 have h4:=Nat.lt_of_mul_lt_mul_left h3;omega
theorem Kn.first (h:Kn P vl ul v2 v1 u2 u1 u0 V U):U / V≤(u1+4294967296*u0) / v1:=by
 have h1:=h.qX;have hu2:=h.hu2;have hv1:=h.hnrm;generalize U / V=q at *;generalize u1+4294967296*u0=top at *;rw[Nat.le_div_iff_mul_le (by omega)]
 rw[Nat.mul_add] at h1;have e:q*(4294967296*v1)=4294967296*(q*v1):=by rw[←Nat.mul_assoc,Nat.mul_comm q,Nat.mul_assoc]
 rw[e] at h1;generalize q*v1=z at *;generalize q*v2=z2 at *;omega
theorem Kn.more (h:Kn P vl ul v2 v1 u2 u1 u0 V U){guess rest:Nat}(hg:U / V≤guess)(he:guess*v1+rest=u1+4294967296*u0)(hc:4294967296≤guess∨u2+4294967296*rest < guess*v2):U / V≤guess - 1∧1≤guess:=by
 have hq:=h.qlt;have h1:=h.qX;generalize U / V=q at *;rcases hc with hc | hc
 ·omega
 ·rcases Nat.lt_or_ge q guess with h2 | h2
  ·omega
  ·exfalso
   have e:q=guess:=by omega
   rw[e,←he,Nat.mul_add] at h1;have e2:guess*(4294967296*v1)=4294967296*(guess*v1):=by rw[←Nat.mul_assoc,Nat.mul_comm guess,Nat.mul_assoc]
   rw[e2] at h1;generalize guess*v1=z at *;generalize guess*v2=z2 at *;omega
theorem Kn.near (h:Kn P vl ul v2 v1 u2 u1 u0 V U){guess rest:Nat}(he:guess*v1+rest=u1+4294967296*u0)(hb:guess < 4294967296)(hc:guess*v2≤u2+4294967296*rest):guess≤U / V+1:=by
 rcases Nat.eq_zero_or_pos guess with h0 | h0
 ·rw[h0];exact Nat.zero_le _
 ·obtain ⟨g,rfl⟩ : ∃ g,guess=g+1:=⟨guess - 1,by omega⟩
  have hn:=h.hnrm;have hX:(g+1)*(v2+4294967296*v1)≤u2+4294967296*(u1+4294967296*u0):=by
   rw[←he,Nat.mul_add];have e2:(g+1)*(4294967296*v1)=4294967296*((g+1)*v1):=by rw[←Nat.mul_assoc,Nat.mul_comm (g+1),Nat.mul_assoc]
   rw[e2];generalize (g+1)*v1=z at *;generalize (g+1)*v2=z2 at *;omega
  have hXg:g≤v2+4294967296*v1:=by omega
  have h1:g*(v2+4294967296*v1+1)≤u2+4294967296*(u1+4294967296*u0):=by
   rw[Nat.mul_succ];rw[Nat.succ_mul] at hX;omega
  have h2:g*V≤U:=by
   have h3:V≤P*(v2+4294967296*v1+1):=by rw[h.hV,Nat.mul_succ];have:=h.hvl;omega
   have h4:g*V≤g*(P*(v2+4294967296*v1+1)):=Nat.mul_le_mul_left _ h3;have h5:g*(P*(v2+4294967296*v1+1))=P*(g*(v2+4294967296*v1+1)):=by rw[←Nat.mul_assoc,Nat.mul_comm g,Nat.mul_assoc]
   have h6:P*(g*(v2+4294967296*v1+1))≤P*(u2+4294967296*(u1+4294967296*u0)):=Nat.mul_le_mul_left _ h1;have h7:=h.hU;omega
  exact Nat.succ_le_succ ((Nat.le_div_iff_mul_le h.vpos).2 h2)
theorem Kn.brk (h:Kn P vl ul v2 v1 u2 u1 u0 V U){guess rest:Nat}(he:guess*v1+rest=u1+4294967296*u0)(hr:4294967296≤rest):guess < 4294967296∧guess*v2≤u2+4294967296*rest:=by
 have ht:=h.top;have hu1:=h.hu1;have hg:guess < 4294967296:=by
  rcases Nat.lt_or_ge guess 4294967296 with h1 | h1
  ·exact h1
  ·exfalso
   have:4294967296*v1≤guess*v1:=Nat.mul_le_mul_right _ h1;omega
 refine ⟨hg,?_⟩;have:=Nat.mul_le_mul (show guess≤4294967295 by omega) (show v2≤4294967295 by have:=h.hv2;omega)
 omega
end
theorem Vq {P a ds g vt br cr u d c:Nat}(h:a+P*(br+cr)=ds+g*vt)(hc:c=cr+g*d)(hu:u < 4294967296)(hbr:br≤1) :
  a+P*u+P*4294967296*((if u < br+c % 4294967296 then 1 else 0)+c / 4294967296)=ds+P*((u+4294967296 - br - c % 4294967296) % 4294967296)+g*(vt+P*d):=by
 have hs:=LW (P:=P) (v:=0) (br:=br) (a:=0) (b:=P*br) (x:=u) (y:=c % 4294967296) (by omega) hu (by omega) hbr
 have e:P*(c % 4294967296)+P*4294967296*(c / 4294967296)=P*c:=by rw[Nat.mul_assoc,←Nat.mul_add,Nat.mod_add_div]
 have e2:g*(vt+P*d)=g*vt+P*(g*d):=by rw[Nat.mul_add,←Nat.mul_assoc,Nat.mul_comm g P,Nat.mul_assoc]
 have e3:P*c=P*cr+P*(g*d):=by rw[hc,Nat.mul_add]
 rw[Nat.mul_add (P*4294967296),e2];rw[Nat.mul_add P br cr] at h;generalize P*((u+4294967296 - br - c % 4294967296) % 4294967296)=D at *;generalize P*4294967296*(if u < br+c % 4294967296 then 1 else 0)=E at *
 generalize P*4294967296*(c / 4294967296)=F at *;generalize P*(c % 4294967296)=G at *;generalize P*(g*d)=Hh at *;omega
theorem ED {gs d cr:Nat}(hg:gs < 4294967296)(hd:d < 4294967296)(hcr:cr < 4294967296) : ∃ p c lo:Nat,IntKind.u64.wrap ((gs:Int)*(d:Int))=(p:Int)∧IntKind.u64.wrap ((cr:Int)+(p:Int))=(c:Int)∧bits .and .u64 (c:Int) 4294967295=(lo:Int)∧c=cr+gs*d∧lo=c % 4294967296∧c / 4294967296 < 4294967296:=by
 have hb:=Ep hg hd;have e:((gs*d:Nat):Int)=(gs:Int)*(d:Int):=by simp
 refine ⟨gs*d,cr+gs*d,(cr+gs*d) % 4294967296,?_,?_,?_,rfl,rfl,by omega⟩
 ·rw[←e,IntKind.wrap_u64];omega
 ·rw[IntKind.wrap_u64];omega
 ·have:=u64_and_nat (cr+gs*d) 4294967295 (by omega) (by omega)
  have e2:(cr+gs*d) &&& 4294967295=(cr+gs*d) % 4294967296:=Nat.and_two_pow_sub_one_eq_mod _ 32;rw[e2] at this;exact this
theorem Rm {U V q gs L Pn un br cr:Nat}(hV:V < Pn)(hq:q=U / V)(hV0:0 < V)(h1:q≤gs)(h2:gs≤q+1)(hL:L < Pn)(he:U+Pn*(br+cr)=L+gs*V+Pn*un) :
  (br+cr≤un→gs=q∧L=U % V∧un=br+cr)∧(un < br+cr→gs=q+1∧br+cr=un+1∧L+V=U % V+Pn):=by
 have hdm:=Nat.div_add_mod U V;have hm:=Nat.mod_lt U hV0;rw[←hq] at hdm;have hqV:V*q=q*V:=Nat.mul_comm _ _;constructor
 ·intro h
  obtain ⟨z,rfl⟩ : ∃ z,un=br+cr+z:=⟨un - (br+cr),by omega⟩
  rw[Nat.mul_add Pn (br+cr) z] at he;have hU:U=L+gs*V+Pn*z:=by omega
  have hg:gs=q:=by
   rcases Nat.lt_or_ge q gs with hlt | hge
   ·exfalso
    obtain rfl:gs=q+1:=by omega
    rw[Nat.succ_mul] at hU;omega
   ·omega
  subst hg;have hz:z=0:=by
   rcases Nat.eq_zero_or_pos z with h0 | h0
   ·exact h0
   ·exfalso
    have:Pn*1≤Pn*z:=Nat.mul_le_mul_left _ h0;omega
  subst hz;exact ⟨rfl,by omega,by omega⟩
 ·intro h
  obtain ⟨z,hz⟩ : ∃ z,br+cr=un+1+z:=⟨br+cr - un - 1,by omega⟩
  rw[hz,Nat.mul_add Pn (un+1) z,Nat.mul_succ] at he;have hU:U+Pn+Pn*z=L+gs*V:=by omega
  have hg:gs=q+1:=by
   rcases Nat.lt_or_ge q gs with hlt | hge
   ·omega
   ·exfalso
    obtain rfl:gs=q:=by omega
    omega
  subst hg;rw[Nat.succ_mul] at hU;have hz0:z=0:=by
   rcases Nat.eq_zero_or_pos z with h0 | h0
   ·exact h0
   ·exfalso
    have:Pn*1≤Pn*z:=Nat.mul_le_mul_left _ h0;omega
  subst hz0;exact ⟨rfl,by omega,by omega⟩
structure Cos (A1 A2 a1 a2 u1 u2 v1 v2:Nat) (even:Bool):Prop where
  le:a2≤a1
  e1:A1=v2*a1+v1*a2
  e2:A2=u2*a1+u1*a2
  det:(u1:Int)*v2 - (v1:Int)*u2=if even then -1 else 1
  uv:u2≤v2
  uv':u1+u2≤v1+v2
  v2pos:1≤v2
  vmono:v1≤v2
  u12:1≤u1+u2
  uv1:1≤v1→u1≤v1
  u2pos:1≤v1→1≤u2
structure Cot (A1 A2 p a u0 u1 v0 v1:Nat) (even:Bool):Prop where
  e1:A1=v1*p+v0*a
  e2:A2=u1*p+u0*a
  det:(u0:Int)*v1 - (v0:Int)*u1=if even then 1 else -1
  uv:u1≤v1
  uv':u0+u1≤v0+v1
  v1pos:1≤v1
  vmono:v0≤v1
  va:v1≤a
  vp:v0+v1+a≤p
  uv0:1≤v0→u0≤v0
  u1pos:1≤v0→1≤u1
theorem Cos.start {A1 A2:Nat}(h:A2≤A1):Cos A1 A2 A1 A2 1 0 0 1 false where
  le:=h
  e1:=by omega
  e2:=by omega
  det:=by simp
  uv:=by omega
  uv':=by omega
  v2pos:=by omega
  vmono:=by omega
  u12:=by omega
  uv1:=by omega
  u2pos:=by omega
theorem Cos.cot {A1 A2 a1 a2 u1 u2 v1 v2:Nat}{even:Bool}(h:Cos A1 A2 a1 a2 u1 u2 v1 v2 even)(c1:v2≤a2)(c2:v1+v2≤a1 - a2):Cot A1 A2 a1 a2 u1 u2 v1 v2 (!even) where
  e1:=h.e1
  e2:=h.e2
  det:=by rw[h.det];cases even <;> rfl
  uv:=h.uv
  uv':=h.uv'
  v1pos:=h.v2pos
  vmono:=h.vmono
  va:=c1
  vp:=by have:=h.le;omega
  uv0:=h.uv1
  u1pos:=h.u2pos
theorem Cos.step {A1 A2 a1 a2 u1 u2 v1 v2 : Nat} {even : Bool} (h : Cos A1 A2 a1 a2 u1 u2 v1 v2 even) (c1 : v2 ≤ a2) : Cos A1 A2 a2 (a1 % a2) u2 (u1 + a1 / a2 * u2) v2 (v1 + a1 / a2 * v2) (!even) := by
  have h2:=h.v2pos;have ha:0 < a2:=by omega
  have hq:1≤a1 / a2:=(Nat.le_div_iff_mul_le ha).2 (by have:=h.le;omega)
  have hd:=Nat.div_add_mod a1 a2;have hlt:=Nat.mod_lt a1 ha;obtain ⟨q,hqe⟩ : ∃ q,a1 / a2=q+1:=⟨a1 / a2 - 1,by omega⟩
  rw[hqe] at hd hq ⊢;generalize a1 % a2=r at *;have e1:=h.e1;have e2:=h.e2;have det:=h.det;have uv:=h.uv;have uv':=h.uv';have u12:=h.u12;have vm:=h.vmono;have hm:q*u2≤q*v2:=Nat.mul_le_mul_left _ uv;have x1:(q+1)*u2=q*u2+u2:=Nat.succ_mul _ _;have x2:(q+1)*v2=q*v2+v2:=Nat.succ_mul _ _;refine ⟨by omega,?_,?_,?_,by omega,by omega,by omega,by omega,by omega,fun _=>uv,fun _=>by omega⟩
  · rw[e1,←hd];grind
  · rw[e2,←hd];grind
  · have:((u2:Int)*((v1+(q+1)*v2:Nat):Int) - (v2:Int)*((u1+(q+1)*u2:Nat):Int)) = -((u1:Int)*v2 - (v1:Int)*u2):=by
      push_cast
      grind
    rw[this,det];cases even <;> rfl
theorem Cos.fits {A1 A2 a1 a2 u1 u2 v1 v2:Nat}{even:Bool}(h:Cos A1 A2 a1 a2 u1 u2 v1 v2 even)(c1:v2≤a2):v1+a1 / a2*v2≤A1∧u1+a1 / a2*u2≤A1∧v2*v2≤A1:=by
  have h2:=h.v2pos;have s:=h.step c1;have e:=s.e1;have uv:=s.uv;have h3:(v1+a1 / a2*v2)*1≤(v1+a1 / a2*v2)*a2:=Nat.mul_le_mul_left _ (by omega)
  have h4:v2*v2≤v2*a1:=Nat.mul_le_mul_left _ (by have:=h.le;omega)
  have e0:=h.e1;refine ⟨by omega,by omega,by omega⟩
theorem AaN {v:Nat}(h:v*v≤18446744073709551615):v < 4294967296:=by
  rcases Nat.lt_or_ge v 4294967296 with h1 | h1
  · exact h1
  · have:=Nat.mul_le_mul h1 h1
    omega
theorem Cot.fits {A1 A2 p a u0 u1 v0 v1:Nat}{even:Bool}(h:Cot A1 A2 p a u0 u1 v0 v1 even)(hA:A1≤18446744073709551615)(h0:1≤v0):u0 < 4294967296∧u1 < 4294967296∧v0 < 4294967296∧v1 < 4294967296:=by
  have e:=h.e1;have vp:=h.vp;have h4:v1*v1≤v1*p:=Nat.mul_le_mul_left _ (by omega)
  have:=AaN (v:=v1) (by omega)
  have:=h.uv0 h0;have:=h.vmono;have:=h.uv;omega
structure LehPair (X Y u0 u1 v0 v1 nx ny:Nat) (even:Bool):Prop where
  ev:even=true→X*u0=nx+Y*v0∧Y*v1=ny+X*u1
  od:even=false→Y*v0=nx+X*u0∧X*u1=ny+Y*v1
  lt:ny < nx
  ltY:ny < Y
  leY:nx≤Y
  gcd:Nat.gcd nx ny=Nat.gcd X Y
theorem ZP {p D ex ey v0 v1 a u0 u1:Int}(hD:0 < D)(hx0:0≤ex)(hx:ex < D)(hy0:0≤ey)(hy:ey < D)(uv:u1≤v1)(uv':u0+u1≤v0+v1)(u1n:0≤u1)(u0n:0≤u0)(v0n:0≤v0)(v1p:1≤v1)(va:v1≤a)(vp:v0+v1+a≤p) :
    (0 < a*D+ey*v1 - ex*u1∧a*D+ey*v1 - ex*u1 < p*D+ex*u0 - ey*v0)∧(0 < a*D+ex*u1 - ey*v1∧a*D+ex*u1 - ey*v1 < p*D+ey*v0 - ex*u0):=by
  have m1:ex*u1≤ex*v1:=Int.mul_le_mul_of_nonneg_left uv hx0;have m2:ex*v1 < D*v1:=Int.mul_lt_mul_of_pos_right hx (by omega)
  have m3:v1*D≤a*D:=Int.mul_le_mul_of_nonneg_right va (by omega)
  have m4:0≤ey*v1:=Int.mul_nonneg hy0 (by omega)
  have m5:0≤ex*u1:=Int.mul_nonneg hx0 (by omega)
  have m6:ey*v1 < D*v1:=Int.mul_lt_mul_of_pos_right hy (by omega)
  have m7:ey*(v0+v1) < D*(v0+v1):=Int.mul_lt_mul_of_pos_right hy (by omega)
  have m8:ex*(u0+u1)≤ex*(v0+v1):=Int.mul_le_mul_of_nonneg_left uv' hx0;have m9:ex*(v0+v1) < D*(v0+v1):=Int.mul_lt_mul_of_pos_right hx (by omega)
  have n1:(v0+v1)*D≤(p - a)*D:=Int.mul_le_mul_of_nonneg_right (by omega) (by omega)
  have n2:0≤ex*(u0+u1):=Int.mul_nonneg hx0 (by omega)
  have n3:0≤ey*(v0+v1):=Int.mul_nonneg hy0 (by omega)
  rw[Int.mul_comm D v1] at m2 m6;rw[Int.mul_comm D (v0+v1)] at m7 m9;rw[Int.sub_mul] at n1;simp only[Int.mul_add] at m7 m8 m9 n2 n3;omega
theorem Cot.leh {X Y D A1 A2 ex ey p a u0 u1 v0 v1 : Nat} {even : Bool} (h : Cot A1 A2 p a u0 u1 v0 v1 even) (h0 : 1 ≤ v0) (hX : X = A1 * D + ex) (hY : Y = A2 * D + ey) (hx : ex < D) (hy : ey < D) :
    ∃ nx ny,LehPair X Y u0 u1 v0 v1 nx ny even:=by
  have e1:(A1:Int)=v1*p+v0*a:=by rw[h.e1];push_cast;rfl
  have e2:(A2:Int)=u1*p+u0*a:=by rw[h.e2];push_cast;rfl
  have hX':(X:Int)=A1*D+ex:=by rw[hX];push_cast;rfl
  have hY':(Y:Int)=A2*D+ey:=by rw[hY];push_cast;rfl
  have hp:=ZP (p:=p) (D:=D) (ex:=ex) (ey:=ey) (v0:=v0) (v1:=v1) (a:=a) (u0:=u0) (u1:=u1) (by omega) (by omega) (by omega) (by omega) (by omega) (by have:=h.uv;omega) (by have:=h.uv';omega) (by omega) (by omega) (by omega) (by have:=h.v1pos;omega) (by have:=h.va;omega) (by have:=h.vp;omega)
  have det:=h.det;have u1p:=h.u1pos h0;cases even
  · simp only [Bool.false_eq_true, if_false] at det
    have i1:(Y:Int)*v0 - X*u0=p*D+ey*v0 - ex*u0:=by rw[hX',hY',e1,e2];grind
    have i2:(X:Int)*u1 - Y*v1=a*D+ex*u1 - ey*v1:=by rw[hX',hY',e1,e2];grind
    obtain ⟨_,hn1,hn2⟩:=hp;rw[←i1] at hn2;rw[←i2] at hn1 hn2;obtain ⟨nx,hnx⟩ : ∃ nx:Nat,(nx:Int)=Y*v0 - X*u0:=⟨((Y:Int)*v0 - X*u0).toNat,by omega⟩
    obtain ⟨ny,hny⟩ : ∃ ny:Nat,(ny:Int)=X*u1 - Y*v1:=⟨((X:Int)*u1 - Y*v1).toNat,by omega⟩
    have b1 : Y * v0 = nx + X * u0 := by have : ((Y * v0 : Nat) : Int) = ((nx + X * u0 : Nat) : Int) := by push_cast; omega
                                         exact_mod_cast this
    have b2 : X * u1 = ny + Y * v1 := by have : ((X * u1 : Nat) : Int) = ((ny + Y * v1 : Nat) : Int) := by push_cast; omega
                                         exact_mod_cast this
    have c1:X=v1*nx+v0*ny:=by
      have:((X:Nat):Int)=((v1*nx+v0*ny:Nat):Int):=by push_cast;rw[hnx,hny];grind
      exact_mod_cast this
    have c2:Y=u1*nx+u0*ny:=by
      have:((Y:Nat):Int)=((u1*nx+u0*ny:Nat):Int):=by push_cast;rw[hnx,hny];grind
      exact_mod_cast this
    have hlt:ny < nx:=by omega
    have hle:nx≤Y:=by
      have:1*nx≤u1*nx:=Nat.mul_le_mul_right _ u1p;omega
    refine ⟨nx,ny,⟨fun h=>by simp at h,fun _=>⟨b1,b2⟩,hlt,by omega,hle,Nat.dvd_antisymm ?_ ?_⟩⟩
    · have d1:=Nat.gcd_dvd_left nx ny
      have d2:=Nat.gcd_dvd_right nx ny;refine Nat.dvd_gcd ?_ ?_
      · conv=>rhs;rw[c1]
        exact Nat.dvd_add (Nat.dvd_trans d1 (Nat.dvd_mul_left _ _)) (Nat.dvd_trans d2 (Nat.dvd_mul_left _ _))
      · conv=>rhs;rw[c2]
        exact Nat.dvd_add (Nat.dvd_trans d1 (Nat.dvd_mul_left _ _)) (Nat.dvd_trans d2 (Nat.dvd_mul_left _ _))
    · have d1:=Nat.gcd_dvd_left X Y
      have d2:=Nat.gcd_dvd_right X Y;refine Nat.dvd_gcd ?_ ?_
      · exact (Nat.dvd_add_left (Nat.dvd_trans d1 (Nat.dvd_mul_right _ u0))).1 (by rw[←b1];exact Nat.dvd_trans d2 (Nat.dvd_mul_right _ _))
      · exact (Nat.dvd_add_left (Nat.dvd_trans d2 (Nat.dvd_mul_right _ v1))).1 (by rw[←b2];exact Nat.dvd_trans d1 (Nat.dvd_mul_right _ _))
  · simp only [if_true] at det
    have i1:(X:Int)*u0 - Y*v0=p*D+ex*u0 - ey*v0:=by rw[hX',hY',e1,e2];grind
    have i2:(Y:Int)*v1 - X*u1=a*D+ey*v1 - ex*u1:=by rw[hX',hY',e1,e2];grind
    obtain ⟨⟨hn1,hn2⟩,_⟩:=hp;rw[←i1] at hn2;rw[←i2] at hn1 hn2;obtain ⟨nx,hnx⟩ : ∃ nx:Nat,(nx:Int)=X*u0 - Y*v0:=⟨((X:Int)*u0 - Y*v0).toNat,by omega⟩
    obtain ⟨ny,hny⟩ : ∃ ny:Nat,(ny:Int)=Y*v1 - X*u1:=⟨((Y:Int)*v1 - X*u1).toNat,by omega⟩
    have b1 : X * u0 = nx + Y * v0 := by have : ((X * u0 : Nat) : Int) = ((nx + Y * v0 : Nat) : Int) := by push_cast; omega
                                         exact_mod_cast this
    have b2 : Y * v1 = ny + X * u1 := by have : ((Y * v1 : Nat) : Int) = ((ny + X * u1 : Nat) : Int) := by push_cast; omega
                                         exact_mod_cast this
    have c1:X=v1*nx+v0*ny:=by
      have:((X:Nat):Int)=((v1*nx+v0*ny:Nat):Int):=by push_cast;rw[hnx,hny];grind
      exact_mod_cast this
    have c2:Y=u1*nx+u0*ny:=by
      have:((Y:Nat):Int)=((u1*nx+u0*ny:Nat):Int):=by push_cast;rw[hnx,hny];grind
      exact_mod_cast this
    have hlt:ny < nx:=by omega
    have hle:nx≤Y:=by
      have:1*nx≤u1*nx:=Nat.mul_le_mul_right _ u1p;omega
    refine ⟨nx,ny,⟨fun _=>⟨b1,b2⟩,fun h=>by simp at h,hlt,by omega,hle,Nat.dvd_antisymm ?_ ?_⟩⟩
    · have d1:=Nat.gcd_dvd_left nx ny
      have d2:=Nat.gcd_dvd_right nx ny;refine Nat.dvd_gcd ?_ ?_
      · conv=>rhs;rw[c1]
        exact Nat.dvd_add (Nat.dvd_trans d1 (Nat.dvd_mul_left _ _)) (Nat.dvd_trans d2 (Nat.dvd_mul_left _ _))
      · conv=>rhs;rw[c2]
        exact Nat.dvd_add (Nat.dvd_trans d1 (Nat.dvd_mul_left _ _)) (Nat.dvd_trans d2 (Nat.dvd_mul_left _ _))
    · have d1:=Nat.gcd_dvd_left X Y
      have d2:=Nat.gcd_dvd_right X Y;refine Nat.dvd_gcd ?_ ?_
      · exact (Nat.dvd_add_left (Nat.dvd_trans d2 (Nat.dvd_mul_right _ v0))).1 (by rw[←b1];exact Nat.dvd_trans d1 (Nat.dvd_mul_right _ _))
      · exact (Nat.dvd_add_left (Nat.dvd_trans d1 (Nat.dvd_mul_right _ u1))).1 (by rw[←b2];exact Nat.dvd_trans d2 (Nat.dvd_mul_right _ _))
theorem PN (xs:List Nat)(j:Nat)(h:W32 xs):val (xs.drop j)=val xs / 4294967296 ^ j:=by
  by_cases hj:j≤xs.length
  · have e:=C6 (xs.take j) (xs.drop j)
    rw[List.take_append_drop,List.length_take,Nat.min_eq_left hj] at e;have hl:=BP (h.take j);rw[List.length_take,Nat.min_eq_left hj] at hl;rw[e,Nat.add_mul_div_left _ _ (Nat.pow_pos (by omega)),Nat.div_eq_of_lt hl,Nat.zero_add]
  · rw[List.drop_eq_nil_of_le (by omega),O3,Nat.div_eq_of_lt]
    exact Nat.lt_of_lt_of_le (BP h) (Nat.pow_le_pow_right (by omega) (by omega))
theorem U3 (xs:List Nat)(j:Nat)(hl:xs.length≤j+3):val (xs.drop j)=xs.getD j 0+4294967296*(xs.getD (j+1) 0+4294967296*xs.getD (j+2) 0):=by
  have h : ∀ ys:List Nat,ys.length≤3→val ys=ys.getD 0 0+4294967296*(ys.getD 1 0+4294967296*ys.getD 2 0):=by
    intro ys hy
    match ys,hy with
    | [],_=>rfl
    | [a],_=>simp[val]
    | [a,b],_=>simp[val]
    | [a,b,c],_=>simp[val]
    | _::_::_::_::_,hy=>simp at hy
  rw[h _ (by rw[List.length_drop];omega)]
  simp[List.getD_eq_getElem?_getD,List.getElem?_drop]
theorem RH (xs:List Nat)(n s:Nat)(hn:3≤n)(hl:xs.length≤n)(hw:W32 xs)(hs:s≤31) :
    (xs.getD (n - 1) 0*4294967296+xs.getD (n - 2) 0)*2 ^ s+xs.getD (n - 3) 0 / 2 ^ (32 - s)=val xs / 2 ^ (32*(n - 2) - s):=by
  have e3:=U3 xs (n - 3) (by omega)
  rw[PN xs _ hw,show n - 3+1=n - 2 by omega,show n - 3+2=n - 1 by omega] at e3
  have ep:2 ^ (32*(n - 2) - s)=4294967296 ^ (n - 3)*2 ^ (32 - s):=by
    rw[show (4294967296:Nat)=2 ^ 32 by rfl,←Nat.pow_mul,←Nat.pow_add];congr 1;omega
  rw[ep,←Nat.div_div_eq_div_mul,e3];have e32:4294967296=2 ^ (32 - s)*2 ^ s:=by rw[←Nat.pow_add,show 32 - s+s=32 by omega]
  generalize xs.getD (n - 3) 0=k;generalize xs.getD (n - 2) 0=l;generalize xs.getD (n - 1) 0=m;have hp:0 < 2 ^ (32 - s):=Nat.pow_pos (by omega)
  conv=>rhs;rw[e32]
  rw[show 2 ^ (32 - s)*2 ^ s*(l+2 ^ (32 - s)*2 ^ s*m)=2 ^ (32 - s)*(2 ^ s*(l+2 ^ (32 - s)*2 ^ s*m)) by rw[Nat.mul_assoc],Nat.add_mul_div_left _ _ hp,←e32,Nat.add_comm]
  congr 1;rw[Nat.mul_comm (2 ^ s)];congr 1;omega
theorem VJ {P uX vY d q br p ux vy : Nat} (h : uX + P * q + P * br = d + vY + P * p) (hbr : br ≤ 1) :
    (uX+P*ux)+P*4294967296*((q+vy) / 4294967296)+P*4294967296*(if (p+ux) % 4294967296 < (q+vy) % 4294967296+br then 1 else 0) =
      (d+P*(((p+ux) % 4294967296+4294967296+4294967296 - (q+vy) % 4294967296 - br) % 4294967296))+(vY+P*vy)+P*4294967296*((p+ux) / 4294967296):=by
  have hp:=Nat.mod_add_div (p+ux) 4294967296;have hq:=Nat.mod_add_div (q+vy) 4294967296;have lp:=Nat.mod_lt (p+ux) (show 4294967296 > 0 by omega)
  have lq:=Nat.mod_lt (q+vy) (show 4294967296 > 0 by omega)
  generalize (p+ux) % 4294967296=l at *;generalize (p+ux) / 4294967296=p' at *;generalize (q+vy) % 4294967296=m at *;generalize (q+vy) / 4294967296=q' at *;have hbase : ∀ t b:Nat,b≤1→l+4294967296*b=t+m+br→ux+4294967296*q'+4294967296*b+p=t+vy+4294967296*p'+q+br:=by intro t b hb ht;omega
  have key : ∀ t b:Nat,b≤1→l+4294967296*b=t+m+br→(uX+P*ux)+P*4294967296*q'+P*4294967296*b=(d+P*t)+(vY+P*vy)+P*4294967296*p':=by
    intro t b hb ht;have h2:=congrArg (P * ·) (hbase t b hb ht);simp only[Nat.mul_add] at h2;simp only[Nat.mul_assoc];omega
  split
  · rename_i hlt
    have:=key ((l+4294967296+4294967296 - m - br) % 4294967296) 1 (by omega) (by omega)
    omega
  · rename_i hlt
    have:=key ((l+4294967296+4294967296 - m - br) % 4294967296) 0 (by omega) (by omega)
    omega
theorem Y6 {P uX vY d q br p R:Nat}(h:uX+P*q+P*br=d+vY+P*p)(hd:d < P)(hR:uX=R+vY)(hRP:R < P):d=R:=by
  have h1:R+P*(q+br)=d+P*p:=by rw[Nat.mul_add];omega
  have h2:=congrArg (· % P) h1;simp only[Nat.add_mul_mod_self_left] at h2;rw[Nat.mod_eq_of_lt hRP,Nat.mod_eq_of_lt hd] at h2;exact h2.symm
end Go.Proofs.YtdgbealknnmkoaaGreatDoor
namespace Go.Proofs.YtdgbealknnmkoaaGreatDoor
open Go.RowKit
def Ac (n:Nat):List Nat:=if n < 128 then [n] else (n % 128+128)::Ac (n / 128)
 termination_by n
 decreasing_by omega
theorem CF {n:Nat}(h:n < 128):Ac n=[n]:=by rw[Ac,if_pos h]
theorem Gc {n:Nat}(h:128≤n):Ac n=(n % 128+128)::Ac (n / 128):=by rw[Ac,if_neg (by omega)]
theorem F8 (n:Nat):0 < (Ac n).length:=by rw[Ac];split <;> simp
theorem XY : ∀ (j n:Nat),n < 128 ^ (j+1)→(Ac n).length≤j+1:=by
 intro j;induction j with
 | zero=>intro n h;rw[CF (by simpa using h)];simp
 | succ j ih =>
  intro n h;by_cases hn:n < 128
  ·rw[CF hn];simp
  ·rw[Gc (by omega)]
   have:=ih (n / 128) (by rw[Nat.pow_succ] at h;omega)
   simp only[List.length_cons];omega
theorem AJ {n:Nat}(h:n≤4611686018427387904):(Ac n).length≤9:=XY 8 n (by omega)
theorem V6 : ∀ (j n:Nat),n < 128 ^ (j+1) → ∀ x∈Ac n,x < 256:=by
 intro j;induction j with
 | zero=>intro n h;rw[CF (by simpa using h)];simp at h ⊢;omega
 | succ j ih =>
  intro n h;by_cases hn:n < 128
  ·rw[CF hn];simp;omega
  ·rw[Gc (by omega)]
   intro x hx;rcases List.mem_cons.1 hx with rfl | hx
   ·omega
   ·exact ih (n / 128) (by rw[Nat.pow_succ] at h;omega) x hx
theorem MJ {n:Nat}(h:n≤4611686018427387904) : ∀ x∈Ac n,x < 256:=V6 8 n (by omega)
theorem AaU (x:Nat):bits .or .u8 ((x:Int) % 256) 128=((x % 128+128:Nat):Int):=by
 have h:=u8_or_nat (x % 256) 128 (by omega) (by omega)
 have e:((x % 256:Nat):Int)=(x:Int) % 256:=by omega
 rw[e] at h;refine h.trans ?_;have h2:x % 256 ||| 128=x % 128+128:=by
  by_cases hx:x % 256 < 128
  ·rw[Nat.or_comm,nat_join 7 128 (x % 256) (by decide) (by omega)];omega
  ·have:x % 256=128+x % 128:=by omega
   rw[this,←nat_join 7 128 (x % 128) (by decide) (by omega),Nat.or_comm,←Nat.or_assoc,Nat.or_self,nat_join 7 128 (x % 128) (by decide) (by omega)];omega
 rw[h2]
theorem Ac5 (x:Nat)(h:x≤9223372036854775807):bits .and .i64 (x:Int) 127=((x % 128:Nat):Int):=by
 show IntKind.i64.wrap ((BitVec.ofInt 64 (x:Int) &&& BitVec.ofInt 64 127).toNat:Int)=_;rw[BitVec.toNat_and,BitVec.ofInt_natCast,BitVec.toNat_ofNat,Nat.mod_eq_of_lt (by omega),IntKind.wrap_i64]
 have:x &&& (BitVec.ofInt 64 127).toNat=x % 128:=Nat.and_two_pow_sub_one_eq_mod x 7;rw[this];omega
theorem AbJ (x:Nat)(h:x < 128):bits .or .u8 (x:Int) 128=((x+128:Nat):Int):=by
 have:=AaU x;rw[show ((x:Int) % 256)=(x:Int) from by omega,Nat.mod_eq_of_lt h] at this
 exact this
def zig (n:Int):Nat:=if 0≤n then (2*n).toNat else (-2*n - 1).toNat
def El (k:IntKind)(t:TypeId)(w:World)(xs:List Nat)(err:Int)(e:Ending)(w':World):Prop :=
 ∃ v,e = .returned (.tuple #[v,.int .i64 err])∧Own k t w w' v xs
def Nc (k:IntKind)(t:TypeId)(w:World)(xs:List Nat)(e:Ending)(w':World):Prop :=
 ∃ v,e = .returned v∧Own k t w w' v xs
def V8 (n:Int):List Nat×Int:=if -2305843009213693952≤n∧n≤2305843009213693952 then (Ac (zig n),0) else ([],5)
def SG (n:Int):List Nat×Int:=if 0≤n∧n≤4611686018427387904 then (Ac n.toNat,0) else ([],5)
def V7 (s:ByteArray):List Nat×Int:=if s.size≤20000 then (Ac s.size++bytesOf s,0) else ([],10)
end Go.Proofs.YtdgbealknnmkoaaGreatDoor
namespace Go.Proofs.YtdgbealknnmkoaaGreatDoor
def Cm:Nat→List Nat→Nat→Nat→Nat×Nat×Nat
 | 0,_,_,_=>(0,0,2)
 | _+1,[],_,_=>(0,0,3)
 | f+1,b::r,i,n=>if 128≤b then Cm f r (i+1) (n+b % 128*2 ^ (7*i)) else if (b=0∧0 < i)∨4611686018427387904 < n+b % 128*2 ^ (7*i) then (0,0,2) else (n+b % 128*2 ^ (7*i),i+1,0)
def AZ (xs:List Nat):Nat×Nat×Nat:=Cm 9 xs 0 0
def Nf (r:Nat×Nat×Nat)(w:World)(e:Ending)(w':World):Prop:=e = .returned (.tuple #[.int .i64 (r.1:Int),.int .i64 (r.2.1:Int),.int .i64 (r.2.2:Int)])∧w=w'
theorem Ol (f i n:Nat):Cm (f+1) [] i n=(0,0,3):=rfl
theorem Dm (f b i n:Nat)(r:List Nat)(h:128≤b):Cm (f+1) (b::r) i n=Cm f r (i+1) (n+b % 128*2 ^ (7*i)):=by rw[Cm,if_pos h]
theorem FB (f b i n:Nat)(r:List Nat)(h:b < 128)(h2:(b=0∧0 < i)∨4611686018427387904 < n+b % 128*2 ^ (7*i)):Cm (f+1) (b::r) i n=(0,0,2):=by rw[Cm,if_neg (by omega),if_pos h2]
theorem DD (f b i n:Nat)(r:List Nat)(h:b < 128)(h2 : ¬ ((b=0∧0 < i)∨4611686018427387904 < n+b % 128*2 ^ (7*i))):Cm (f+1) (b::r) i n=(n+b % 128*2 ^ (7*i),i+1,0):=by rw[Cm,if_neg (by omega),if_neg h2]
theorem AbY {z k t:Nat}(hz:z < 128)(ht:t < 2 ^ (7*k)):t+z*2 ^ (7*k) < 2 ^ (7*(k+1)):=by
 have e:2 ^ (7*(k+1))=128*2 ^ (7*k):=by rw[show 7*(k+1)=7*k+7 by omega,Nat.pow_add];omega
 rw[e];generalize 2 ^ (7*k)=p at *;have:z*p≤127*p:=Nat.mul_le_mul_right _ (by omega)
 omega
theorem AbI {z k t:Nat}(ht:t < 2 ^ (7*k)):t ||| z*2 ^ (7*k)=t+z*2 ^ (7*k):=by
 rw[Nat.or_comm,nat_join (7*k) _ t (Nat.mul_mod_left _ _) ht];omega
theorem Vz (a b:Nat)(ha:a < 9223372036854775808)(hb:b < 9223372036854775808):bits .or .i64 (a:Int) (b:Int)=((a ||| b:Nat):Int):=by
 have hx:a ||| b < 2 ^ 63:=Nat.or_lt_two_pow (by omega) (by omega)
 show IntKind.i64.wrap ((BitVec.ofInt 64 (a:Int) ||| BitVec.ofInt 64 (b:Int)).toNat:Int)=_;rw[BitVec.toNat_or,BitVec.ofInt_natCast,BitVec.ofInt_natCast,BitVec.toNat_ofNat,BitVec.toNat_ofNat,Nat.mod_eq_of_lt (by omega),Nat.mod_eq_of_lt (by omega),IntKind.wrap_i64]
 omega
theorem U9 (y:Nat)(h:y < 256):bits .and .u8 (y:Int) 127=((y % 128:Nat):Int):=by
 have:=u8_and_nat y 127 h (by omega)
 rw[nat_mask7] at this;exact this
theorem U8 (y:Nat)(h:y < 256):bits .and .u8 (y:Int) 128=if 128≤y then 128 else 0:=by
 have:=u8_and_nat y 128 h (by omega)
 have e:y &&& 128=y / 128 % 2*128:=nat_bit 7 y;rw[e] at this;rw[show (128:Int)=((128:Nat):Int) from rfl,this];split <;> omega
theorem Ok (y t k:Nat)(hy:y < 256)(hk:k < 9)(ht:t < 2 ^ (7*k)) : ∃ z p q:Nat,bits .and .u8 (y:Int) 127=(z:Int)∧z < 128∧RowKit.wrap64 ((z:Int)*2 ^ (7*k))=(p:Int)∧IntKind.u64.wrap ((z:Int)*2 ^ (7*k))=(p:Int) ∧
  bits .or .i64 (t:Int) (p:Int)=(q:Int)∧bits .or .u64 (t:Int) (p:Int)=(q:Int)∧q≤9223372036854775807∧q < 2 ^ (7*(k+1))∧q=t+y % 128*2 ^ (7*k):=by
 have hg:=AbY (z:=y % 128) (by omega) ht
 have hgo:=AbI (z:=y % 128) ht;have hlg:(2:Nat) ^ (7*(k+1))≤9223372036854775808:=Nat.pow_le_pow_right (n:=2) (by omega) (show 7*(k+1)≤63 by omega)
 have hc:((y % 128*2 ^ (7*k):Nat):Int)=((y % 128:Nat):Int)*2 ^ (7*k):=by simp
 have hz:y % 128 < 128:=by omega
 have h1:=U9 y hy;generalize y % 128=z at *;generalize hp:z*2 ^ (7*k)=p at *;generalize (2:Nat) ^ (7*(k+1))=P1 at *;have h2:=Vz t p (by omega) (by omega)
 have h3:=u64_or_nat t p (by omega) (by omega)
 rw[hgo] at h2 h3;refine ⟨z,p,t+p,h1,hz,?_,?_,h2,h3,by omega,hg,rfl⟩
 ·rw[←hc,IntWalk.wrap64_in];omega
 ·rw[←hc,IntWalk.u64_in];omega
theorem Rz : ∀ (f:Nat) (r:List Nat) (i n:Nat),(Cm f r i n).2.2=0→(Cm f r i n).1≤4611686018427387904∧i < (Cm f r i n).2.1∧(Cm f r i n).2.1≤i+r.length∧(Cm f r i n).2.1≤i+f
 | 0,_,_,_,h=>by simp[Cm] at h
 | _+1,[],_,_,h=>by simp[Cm] at h
 | f+1,b::r,i,n,h=>by
  by_cases hb:128≤b
  ·rw[Dm f b i n r hb] at h ⊢
   have:=Rz f r (i+1) _ h;simp only[List.length_cons];omega
  ·by_cases h2:(b=0∧0 < i)∨4611686018427387904 < n+b % 128*2 ^ (7*i)
   ·rw[FB f b i n r (by omega) h2] at h
    simp at h
   ·rw[DD f b i n r (by omega) h2]
    simp only[List.length_cons];omega
theorem DL (xs:List Nat)(h:(AZ xs).2.2=0):(AZ xs).1≤4611686018427387904∧0 < (AZ xs).2.1∧(AZ xs).2.1≤xs.length∧(AZ xs).2.1≤9:=by
 have:=Rz 9 xs 0 0 h;unfold AZ;omega
theorem On : ∀ (f:Nat) (r:List Nat) (i n:Nat),(Cm f r i n).2.2≤3∧((Cm f r i n).2.2≠0→Cm f r i n=(0,0,(Cm f r i n).2.2))
 | 0,_,_,_=>by simp[Cm]
 | _+1,[],_,_=>by simp[Cm]
 | f+1,b::r,i,n=>by
  by_cases hb:128≤b
  ·rw[Dm f b i n r hb]
   exact On f r (i+1) _
  ·by_cases h2:(b=0∧0 < i)∨4611686018427387904 < n+b % 128*2 ^ (7*i)
   ·rw[FB f b i n r (by omega) h2]
    simp
   ·rw[DD f b i n r (by omega) h2]
    simp
theorem JV (xs:List Nat):(AZ xs).2.2≤3∧((AZ xs).2.2≠0→AZ xs=(0,0,(AZ xs).2.2)):=On 9 xs 0 0
def KR (u:Nat):Int:=if u % 2=1 then -((u / 2:Nat)+1:Int) else ((u / 2:Nat):Int)
def Fl (xs:List Nat):Int×Nat×Nat:=if (AZ xs).2.2=0 then (KR (AZ xs).1,(AZ xs).2.1,0) else (0,0,(AZ xs).2.2)
def AaG (r:Int×Nat×Nat)(w:World)(e:Ending)(w':World):Prop:=e = .returned (.tuple #[.int .i64 r.1,.int .i64 (r.2.1:Int),.int .i64 (r.2.2:Int)])∧w=w'
def CW (xs:List Nat):List Nat×Nat×Nat :=
 if (AZ xs).2.2≠0 then ([],0,(AZ xs).2.2) else if 20000 < (AZ xs).1 then ([],0,2) else if xs.length - (AZ xs).2.1 < (AZ xs).1 then ([],0,3) else ((xs.drop (AZ xs).2.1).take (AZ xs).1,(AZ xs).2.1+(AZ xs).1,0)
def AaF (r:List Nat×Nat×Nat)(w:World)(e:Ending)(w':World):Prop:=e = .returned (.tuple #[.string (AM r.1),.int .i64 (r.2.1:Int),.int .i64 (r.2.2:Int)])∧w=w'
def CG (r:Nat):Nat:=if r % 2=1 then (r / 2) ^^^ 2197175160 else r / 2
def B7:Nat→Nat→Nat
 | 0,r=>r
 | n+1,r=>CG (B7 n r)
theorem SQ {r:Nat}(h:r < 4294967296):CG r < 4294967296:=by
 unfold CG;split
 ·exact Nat.xor_lt_two_pow (n:=32) (by omega) (by omega)
 ·omega
theorem EN {r:Nat}(h:r < 4294967296) : ∀ n,B7 n r < 4294967296
 | 0=>h
 | n+1=>SQ (EN h n)
theorem VZ (a b:Nat):(a ^^^ b) / 2=a / 2 ^^^ b / 2:=by
 have:=Nat.shiftRight_xor_distrib (a:=a) (b:=b) (i:=1)
 simpa [Nat.shiftRight_eq_div_pow] using this
theorem Zd (a b:Nat):(a ^^^ b) % 2=(a % 2+b % 2) % 2:=by
 have h:=Nat.xor_mod_two_pow (a:=a) (b:=b) (n:=1);simp only[Nat.pow_one] at h;rw[h];rcases Nat.mod_two_eq_zero_or_one a with ha | ha <;> rcases Nat.mod_two_eq_zero_or_one b with hb | hb <;> simp[ha,hb]
theorem R1 (a b:Nat):CG (a ^^^ b)=CG a ^^^ CG b:=by
 unfold CG;rw[VZ,Zd];rcases Nat.mod_two_eq_zero_or_one a with ha | ha <;> rcases Nat.mod_two_eq_zero_or_one b with hb | hb <;> simp[ha,hb]
 ·rw[Nat.xor_assoc]
 ·rw[Nat.xor_assoc,Nat.xor_assoc,Nat.xor_comm (b / 2)]
 ·rw[Nat.xor_assoc,←Nat.xor_assoc 2197175160,Nat.xor_comm 2197175160 (b / 2),Nat.xor_assoc (b / 2),Nat.xor_self,Nat.xor_zero]
theorem Lk (a b:Nat) : ∀ n,B7 n (a ^^^ b)=B7 n a ^^^ B7 n b
 | 0=>rfl
 | n+1=>by simp only[B7,Lk a b n,R1]
theorem Hw (y:Nat) : ∀ n m,B7 n (y*2 ^ (n+m))=y*2 ^ m
 | 0,m=>by simp[B7]
 | n+1,m=>by
  have h:=Hw y n (m+1);rw[show n+(m+1)=n+1+m by omega] at h
  simp only[B7,h,CG,Nat.pow_succ,←Nat.mul_assoc];generalize y*2 ^ m=z;rw[if_neg (by omega)]
  omega
theorem UH (x:Nat):x=(x % 256) ^^^ (x / 256*2 ^ 8):=by
 apply Nat.eq_of_testBit_eq;intro i;rw[Nat.testBit_xor,show (256:Nat)=2 ^ 8 from rfl,Nat.testBit_mod_two_pow,Nat.testBit_mul_two_pow,Nat.testBit_div_two_pow];by_cases h:i < 8
 ·simp[h,show ¬ 8≤i by omega]
 ·simp[h,show 8≤i by omega,show i - 8+8=i by omega]
theorem Adu (x:Nat):B7 8 x=B7 8 (x % 256) ^^^ x / 256:=by
 conv=>lhs;rw[UH x]
 rw[Lk];have h:=Hw (x / 256) 8 0;simp only[Nat.add_zero,Nat.pow_zero,Nat.mul_one] at h;rw[h]
def DE (s:Nat)(xs:List Nat):Nat:=xs.foldl (fun s c=>B7 8 (s ^^^ c)) s
def crc (xs:List Nat):Nat:=4294967295 - DE 4294967295 xs
theorem FD : ∀ (xs:List Nat) (s:Nat),s < 4294967296→(∀ x∈xs,x < 256)→DE s xs < 4294967296
 | [],_,hs,_=>hs
 | x::xs,s,hs,hx=>by
  refine FD xs _ (EN ?_ 8) (fun y hy=>hx y (List.mem_cons_of_mem _ hy))
  exact Nat.xor_lt_two_pow (n:=32) hs (by have:=hx x List.mem_cons_self;omega)
theorem Lj (s:Nat)(xs:List Nat)(c:Nat):DE s (xs++[c])=B7 8 (DE s xs ^^^ c):=by simp[DE]
theorem Aas (s c:Nat)(hc:c < 256):B7 8 (s ^^^ c)=B7 8 (s % 256 ^^^ c) ^^^ s / 256:=by
 rw[Adu];have h1:(s ^^^ c) % 256=s % 256 ^^^ c:=by
  rw[show (256:Nat)=2 ^ 8 from rfl,Nat.xor_mod_two_pow,Nat.mod_eq_of_lt (a:=c) (by omega)]
 have h2:(s ^^^ c) / 256=s / 256:=by
  have:=Nat.shiftRight_xor_distrib (a:=s) (b:=c) (i:=8);simp only[Nat.shiftRight_eq_div_pow] at this;rw[show (256:Nat)=2 ^ 8 from rfl,this,Nat.div_eq_of_lt (a:=c) (by omega),Nat.xor_zero]
 rw[h1,h2]
def EU (i:Nat):List Nat:=(List.range i).map (B7 8)++List.replicate (256 - i) 0
theorem BV {i:Nat}(h:i≤256):(EU i).length=256:=by simp[EU];omega
theorem UD {i:Nat}(h:i < 256):(EU i).set i (B7 8 i)=EU (i+1):=by
 unfold EU;rw[List.set_append_right _ _ (by simp),List.range_succ,List.map_append,List.append_assoc]
 congr 1;simp only[List.length_map,List.length_range,Nat.sub_self,List.map_cons,List.map_nil,List.singleton_append];rw[show 256 - i=(256 - (i+1))+1 by omega,List.replicate_succ,List.set_cons_zero]
theorem UE {j:Nat}(h:j < 256):(EU 256)[j]? = some (B7 8 j):=by
 simp[EU,h]
theorem VG : ∀ (m f i n:Nat) (rest:List Nat),(Ac m).length≤f→n+m*2 ^ (7*i)≤4611686018427387904→(m=0→i=0) →
  Cm f (Ac m++rest) i n=(n+m*2 ^ (7*i),i+(Ac m).length,0):=by
 intro m;induction m using Nat.strongRecOn with
 | _ m ih =>
  intro f i n rest hf hb h0;by_cases hm:m < 128
  ·rw[CF hm] at hf ⊢
   obtain ⟨g,rfl⟩ : ∃ g,f=g+1:=⟨f - 1,by simp at hf;omega⟩
   have e:m % 128=m:=Nat.mod_eq_of_lt hm;rw[List.singleton_append,DD g m i n rest hm (by rw[e];rintro (⟨h1,h2⟩ | h);have:=h0 h1;omega;omega),e]
   rfl
  ·rw[Gc (by omega)] at hf ⊢
   obtain ⟨g,rfl⟩ : ∃ g,f=g+1:=⟨f - 1,by simp at hf;omega⟩
   have e:(m % 128+128) % 128=m % 128:=by omega
   have hp:2 ^ (7*(i+1))=128*2 ^ (7*i):=by rw[show 7*(i+1)=7*i+7 by omega,Nat.pow_add];omega
   have hs:n+m % 128*2 ^ (7*i)+m / 128*2 ^ (7*(i+1))=n+m*2 ^ (7*i):=by
    rw[hp,←Nat.mul_assoc,Nat.add_assoc,←Nat.add_mul];congr 2;omega
   rw[List.cons_append,Dm g _ i n _ (by omega),e,ih (m / 128) (by omega) g (i+1) _ rest (by simpa using hf) (by rw[hs];exact hb) (by omega),hs]
   refine Prod.ext rfl (Prod.ext ?_ rfl);show i+1+(Ac (m / 128)).length=i+((m % 128+128)::Ac (m / 128)).length;simp only[List.length_cons];omega
theorem VH : ∀ (m f i n j:Nat),(Ac m).length≤f→j < (Ac m).length→Cm f ((Ac m).take j) i n=(0,0,3):=by
 intro m;induction m using Nat.strongRecOn with
 | _ m ih =>
  intro f i n j hf hj;obtain ⟨g,rfl⟩ : ∃ g,f=g+1:=⟨f - 1,by have:=F8 m;omega⟩
  by_cases hm:m < 128
  ·rw[CF hm] at hj ⊢
   obtain rfl:j=0:=by simpa using hj
   rfl
  ·rw[Gc (by omega)] at hf hj ⊢
   cases j with
   | zero=>rfl
   | succ j =>
    rw[List.take_succ_cons,Dm g _ i n _ (by omega)]
    exact ih (m / 128) (by omega) g (i+1) _ j (by simpa using hf) (by simpa using hj)
theorem Dd (m:Nat)(rest:List Nat)(h:m≤4611686018427387904):AZ (Ac m++rest)=(m,(Ac m).length,0):=by
 have:=VG m 9 0 0 rest (AJ h) (by simpa using h) (fun _=>rfl)
 simpa [AZ] using this
theorem Yw (m j:Nat)(h:m≤4611686018427387904)(hj:j < (Ac m).length):AZ ((Ac m).take j)=(0,0,3):=VH m 9 0 0 j (AJ h) hj
theorem Yy (bs rest:List Nat)(h:bs.length≤20000):CW (Ac bs.length++bs++rest)=(bs,(Ac bs.length++bs).length,0):=by
 unfold CW;rw[List.append_assoc,Dd _ _ (by omega)]
 simp only[ne_eq,not_true_eq_false,if_false];rw[if_neg (by omega),if_neg (by simp only[List.length_append];omega)]
 simp
theorem N5 (n:Int)(h1 : -2305843009213693952≤n)(h2:n≤2305843009213693952):KR (zig n)=n:=by
 unfold KR zig;split
 ·rename_i h
  rw[if_neg (by omega)]
  omega
 ·rename_i h
  rw[if_pos (by omega)]
  omega
theorem Km (n:Int)(h1 : -2305843009213693952≤n)(h2:n≤2305843009213693952):zig n≤4611686018427387904:=by
 unfold zig;split <;> omega
theorem Yz (n:Int)(rest:List Nat)(h1 : -2305843009213693952≤n)(h2:n≤2305843009213693952):Fl (Ac (zig n)++rest)=(n,(Ac (zig n)).length,0):=by
 unfold Fl;rw[Dd _ _ (Km n h1 h2)];simp[N5 n h1 h2]
end Go.Proofs.YtdgbealknnmkoaaGreatDoor
