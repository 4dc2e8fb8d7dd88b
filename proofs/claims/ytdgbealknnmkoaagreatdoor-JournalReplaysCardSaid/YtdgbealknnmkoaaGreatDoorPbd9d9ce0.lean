/- Texts of one proof, put together by a program: each lemma is proved for all values of its variables, under the premises that it states. -/
import Derived.Laws.CopyRow
import Derived.Test.YtdgbealknnmkoaaGreatDoorPe0e5dba8
set_option linter.unusedVariables false
set_option linter.unusedSimpArgs false
namespace Go.Proofs.YtdgbealknnmkoaaGreatDoor
open Go.RowKit
def Zs (w:World)(A:Option Addr)(n c:Nat):Prop :=
 (A=none∧n=0∧c=0) ∨ ∃ b cs e,A=some ⟨b,0,none⟩∧w.heap[b]? = some (.cells cs e (0,0))∧cs.size=c∧0 < n∧n≤c∧(∃ x:Nat,cs[0]? = some (Value.int .u32 x)) ∧ ∀ j,n≤j→j < c→cs[j]? = some (Value.int .u32 0)
section
variable {w w':World}{A:Option Addr}{n c g:Nat}
theorem Zs.nil (w:World):Zs w none 0 0 := .inl ⟨rfl,rfl,rfl⟩
theorem Zs.stored {s:Bool}{A':Option Addr}{n' c':Nat}(h:Zs w A n c)(p:Pr w g s A' n' c')(u v:Value):Zs ((w.setCell ⟨g,0,none⟩ u).setCell ⟨g,1,none⟩ v) A n c:=by
 rcases h with h | ⟨b,cs,e,rfl,h1,h2,h3,h4,⟨x,h5⟩,h6⟩
 ·exact .inl h
 ·have hne:b≠g:=by
   rintro rfl;unfold Pr at p;rw[h1] at p;injection p with p;injection p with p;subst p;simp at h5
  exact .inr ⟨b,cs,e,rfl,((Below.heap_setCell _ _ _ b hne).trans (Below.heap_setCell _ _ _ b hne)).trans h1,h2,h3,h4,⟨x,h5⟩,h6⟩
end
theorem Xp {z:Value}{k j:Nat}(hz:z.cells = #[z])(h:j < k):(Builtin.zeroCells z.cells k)[j]? = some z:=by
 rw[hz];simp[Builtin.zeroCells,h,Nat.mod_one]
theorem YC (w:World)(ys:List Nat)(rest:Array Value)(e:TypeId):Rd .u32 (w.drew.alloc (.cells ((cellsOf .u32 ys).toArray++rest) e)) (w.drew.alloc (.cells ((cellsOf .u32 ys).toArray++rest) e)).heap.size (some ⟨w.heap.size,0,none⟩) ys.length ys:=by
 have hnew:(w.drew.alloc (.cells ((cellsOf .u32 ys).toArray++rest) e)).heap[w.heap.size]? = some (.cells ((cellsOf .u32 ys).toArray++rest) e (0,0)):=by
  simp only[World.alloc];exact Array.getElem?_push_size
 refine ⟨rfl,fun _=>⟨_,0,rfl,by simp,fun j x hx => ?_⟩⟩
 have hj:=(List.getElem?_eq_some_iff.1 hx).1;rw[Nat.zero_add,cell_of_row _ _ j _ e (0,0) hnew,Array.getElem?_append_left (by simp[cellsOf];exact hj)]
 simp[cellsOf,hx]
theorem LQ {P:Program}{e t ty:TypeId}(hE:CL P .u32 e 4)(ht:P.underlying t=some (.slice e))(w:World){A:Option Addr}{m c B:Nat}{ys:List Nat}(hr:Rd .u32 w B A m ys)(h0:0 < m)(hm:m≤1099511627776) :
  ∃ b c2 w',(Builtin.append_ #[t,t] ty #[.slice none 0 0,.slice A m c]).run P w = .ok (.slice (some ⟨b,0,none⟩) m c2) w'∧Rd .u32 w' w'.heap.size (some ⟨b,0,none⟩) m ys∧Zs w' (some ⟨b,0,none⟩) m c2∧m≤c2∧c2≤9223372036854775807∧Below w.heap.size w w':=by
 obtain ⟨i,hi,hz,hsize,hby⟩:=info_parts hE;obtain ⟨b,off,rfl,_,hc⟩:=hr.2 h0;have hl:=hr.1;have hcells : ∀ j u,(cellsOf .u32 ys)[j]? = some u→w.cell? ((⟨b,off,none⟩:Addr).add j)=some u:=by
  intro j u hu;rw[CZ] at hu;obtain ⟨x,hx,rfl⟩:=Option.map_eq_some_iff.1 hu;rw[G1];exact hc j x hx
 have hrun:=run_append_nil (P:=P) w t ty e i _ ht hi hz ⟨b,off,none⟩ m c (cellsOf .u32 ys) (by rw[BF,hsize];omega) hcells h0 (by omega) (by rw[hby];omega)
 have g1:=grownCap_ge w m 0 e;have g2:=grownCap_le_maxLen w m 0 e (by unfold maxLen;omega)
 generalize grownCap w m 0 e=G at *;have hnew:(w.drew.alloc (.cells ((cellsOf .u32 ys).toArray++Builtin.zeroCells (Value.int .u32 0).cells (G - m)) e)).heap[w.heap.size]? = some (.cells ((cellsOf .u32 ys).toArray++Builtin.zeroCells (Value.int .u32 0).cells (G - m)) e (0,0)):=by
  simp only[World.alloc];exact Array.getElem?_push_size
 have hlow : ∀ (j x:Nat),ys[j]? = some x→((cellsOf .u32 ys).toArray++Builtin.zeroCells (Value.int .u32 0).cells (G - m))[j]? = some (Value.int .u32 (x:Int)):=by
  intro j x hx;have hj:=(List.getElem?_eq_some_iff.1 hx).1;rw[Array.getElem?_append_left (by simp[cellsOf];exact hj)]
  simp[cellsOf,hx]
 refine ⟨_,_,_,hrun,⟨hl,fun _=>⟨_,0,rfl,by simp,fun j x hx => ?_⟩⟩,.inr ⟨_,_,e,rfl,hnew,?_,h0,g1,?_,fun j hj1 hj2 => ?_⟩,g1,by unfold maxLen at g2;omega,((Below.refl _ _).drew).alloc (Nat.le_refl _) _⟩
 ·rw[Nat.zero_add,cell_of_row _ _ j _ e (0,0) hnew]
  exact hlow j x hx
 ·rw[Array.size_append,List.size_toArray,BF,size_zeroCells,hl]
  show m+(G - m)*1=G;omega
 ·cases ys with
  | nil=>simp at hl;omega
  | cons x r=>exact ⟨x,hlow 0 x rfl⟩
 ·rw[Array.getElem?_append_right (by rw[List.size_toArray,BF,hl];exact hj1),List.size_toArray,BF,hl]
  exact Xp rfl (by omega)
theorem Js {P:Program}{ops:Array Oper}{rest:List Oper}{o:Oper}{a:Act}{Q:Exit→Act→World→Prop}{e t:TypeId}(hE:CL P .u32 e 4)(ht:P.underlying t=some (.slice e))
  {w:World} {A:Option Addr} {m c B:Nat} {ys:List Nat} (hr:Rd .u32 w B A m ys) (h0:0 < m) (hm:m≤1099511627776)
  (hgd:o.guard=none) {s x:Operand} (ho:o.op = .call { callee := .builtin .append,args := #[s,x],argTypes := #[t,t] }) (hs:a.eval s = .slice none 0 0) (hx:a.eval x = .slice A m c)
  (h : ∀ b c2 w',Rd .u32 w' w'.heap.size (some ⟨b,0,none⟩) m ys→Zs w' (some ⟨b,0,none⟩) m c2→m≤c2→c2≤9223372036854775807→Below w.heap.size w w'→wpList P ops Q rest (a.put o.dst (.slice (some ⟨b,0,none⟩) m c2)) w'):wpList P ops Q (o::rest) a w :=
 wpList_plain hgd fun _ hK=>by
  obtain ⟨b,c2,w',hrun,h1,h2,h3,h4,h5⟩:=LQ (c:=c) (ty:=o.type) hE ht w hr h0 hm;unfold Oper.wp execOp;simp only[ho,resolve,invoke,builtin,Sem.run_bind,Sem.run_pure,Result.andThen_ok,List.map_toArray,List.map_cons,List.map_nil,hs,hx,hrun];exact hK _ _ (h b c2 w' h1 h2 h3 h4 h5)
def RetIntZ (w:World)(z:Int)(e:Ending)(w':World):Prop :=
 ∃ neg A n c,e = .returned (.agg #[.bool neg,.slice A n c])∧CInt w' neg A n c z∧Zs w' A n c∧Below w.heap.size w w'
theorem RetIntZ.stored {w w2:World}{g:Nat}{s:Bool}{A:Option Addr}{n c:Nat}{neg:Bool}{X:Option Addr}{m k:Nat}{z:Int}(ci:CInt w2 neg X m k z)(hz:Zs w2 X m k)(p:Pr w2 g s A n c)(bb:Below w.heap.size w w2)(hg:w.heap.size≤g) :
  RetIntZ w z (.returned (.agg #[.bool neg,.slice X m k])) ((w2.setCell ⟨g,0,none⟩ (.bool neg)).setCell ⟨g,1,none⟩ (.slice X m k)) :=
 ⟨_,_,_,_,rfl,ci.stored p _ _,hz.stored p _ _,AD bb hg _ _⟩
set_option maxRecDepth 100000 in
theorem Wz {A:Option Addr}{n c B:Nat}{xs:List Nat}(neg:Bool)(w:World)(hr:Rd .u32 w B A n xs)(hB:B≤w.heap.size)(hx:W32 xs)(hnc:n≤c)(hc:c≤9223372036854775807)(hn:n≤1099511627776) :
  Calls Tryz.prog 153 #[.bool neg,.slice A n c] w (RetIntZ w (sgn neg (val xs))):=by
 have pn:=Pr.new w false none 0 0;have al:=Et w (.cells #[.bool false,.slice none 0 0] 24);have HT:=Lib.hid (BY (c:=c) (w.alloc (.cells #[.bool false,.slice none 0 0] 24)) (hr.alloc hB _) hx hnc hc);go_enter Tryz.func153,Tryz.ntmps153
 go_wp2_with fail
 refine HT.out.mono ?_;rintro e w1 ⟨m,rfl,r1,hm,rfl⟩;clear HT hr hx;generalize w.alloc (.cells #[.bool false,.slice none 0 0] 24)=W at *;generalize val xs=v at *;have km:m=0↔v=0:=by rw[←r1.len];exact AI v
 have HL:=Lib.hid r1.len;by_cases h0:m=0
 ·obtain rfl:=km.1 h0
  subst h0;obtain ⟨q0,q1,f0,f1,k0,k1⟩:=pn.all (.bool false) (.slice none 0 0);go_wp2
  ((try simp only[Exit.inBlock,Exit.then]);refine bodyPost_ret (by simp[results,Tryz.results153,go_sem,k0,k1];try rfl) rfl ?_)
  rw[FC];exact RetIntZ.stored (CInt.zero _) (Zs.nil _) pn al (Nat.le_refl _)
 ·have hne:((m:Int) == 0)=false:=by simp;omega
  have hv:Hid (v≠0):=fun h=>h0 (km.2 h)
  have q0:=pn.cell0;have q1:=pn.cell1;clear km;go_wp2_with (at_builtin;refine Js Tryz.elemU32 Tryz.underlying22 r1 (by omega) (by omega) rfl rfl rfl rfl ?_;intro b2 c2 w2 r2 z2 h2 h2' d2;have p2:=pn.call d2;obtain ⟨q0,q1,f0,f1,k0,k1⟩:=p2.all (.bool neg) (.slice (some ⟨b2,0,none⟩) m c2))
  ((try simp only[Exit.inBlock,Exit.then]);refine bodyPost_ret (by simp[results,Tryz.results153,go_sem,k0,k1];try rfl) rfl ?_)
  exact RetIntZ.stored (CInt.of r2 hv.out h2 h2') z2 p2 (AB al d2) (Nat.le_refl _)
set_option maxRecDepth 100000 in
theorem TU {s:Bool}{A:Option Addr}{n c:Nat}{x:Int}(w:World)(ha:AInt w s A n c x)(hn:n≤1099511627776) :
  Calls Tryz.prog 150 #[.agg #[.bool s,.slice A n c]] w (RetIntZ w x):=by
 obtain ⟨ds,h1,h2,h3,h4,rfl⟩:=ha;obtain ⟨W,hW,bW,pa,pr⟩:=QA w s A n c;have HM:=Lib.hid (Wz s W (h1.call bW) (Nat.le_refl _) h2 h3 h4 hn);have a0:=pa.cell0;have a1:=pa.cell1;generalize sgn s (val ds)=z at *;go_enter Tryz.func150,Tryz.ntmps150
 go_wp2_with fail
 rw[←hW];clear hW;refine HM.out.mono ?_;rintro e w2 ⟨neg,A2,n2,c2,rfl,ci,cz,d2⟩;have p2:=pr.call d2;obtain ⟨q0,q1,f0,f1,k0,k1⟩:=p2.all (.bool neg) (.slice A2 n2 c2);go_wp2
 ((try simp only[Exit.inBlock,Exit.then]);refine bodyPost_ret (by simp[results,Tryz.results150,go_sem,k0,k1];try rfl) rfl ?_)
 exact RetIntZ.stored ci cz p2 (AB bW d2) (by omega)
theorem LP {P : Program} {e t ty : TypeId} (hE : CL P .u32 e 4) (ht : P.underlying t = some (.slice e)) (w : World) {A : Option Addr} {n c : Nat} {xs : List Nat} (hr : Rd .u32 w w.heap.size A n xs) (hZ : Zs w A n c) (hn : n ≤ 1099511627776) (hcm : c ≤ 9223372036854775807) {q : Addr} {c1 : Nat} (hq : w.cell? q = some (.int .u32 0)) :
  ∃ A2 c2 w',(Builtin.append_ #[t,t] ty #[.slice A n c,.slice (some q) 1 c1]).run P w = .ok (.slice A2 (n+1) c2) w'∧Rd .u32 w' w'.heap.size A2 (n+1) (xs++[0])∧n+1≤c2∧c2≤9223372036854775807∧Below w.heap.size w w':=by
 obtain ⟨i,hi,hz,hsize,hby⟩:=info_parts hE;have hone : ∀ j u,[Value.int .u32 0][j]? = some u→w.cell? (q.add j)=some u:=by
  intro j u hu;cases j with
  | zero=>simp at hu;subst hu;rw[show q.add 0=q from by unfold Addr.add;split <;> simp_all];exact hq
  | succ j=>simp at hu
 rcases hZ with ⟨rfl,rfl,rfl⟩ | ⟨b,cs,e2,rfl,h1,h2,h3,h4,h5,h6⟩
 ·have hx:xs=[]:=List.eq_nil_of_length_eq_zero hr.1
  subst hx;have hrun:=run_append_nil (P:=P) w t ty e i _ ht hi hz q 1 c1 [.int .u32 0] (by rw[hsize];rfl) hone (by omega) (by omega) (by rw[hby];omega)
  have g1:=grownCap_ge w 1 0 e;have g2:=grownCap_le_maxLen w 1 0 e (by unfold maxLen;omega)
  exact ⟨_,_,_,hrun,YC w [0] _ e,g1,by unfold maxLen at g2;omega,((Below.refl _ _).drew).alloc (Nat.le_refl _) _⟩
 ·have hl:=hr.1
  by_cases hc:n+1≤c
  ·have hf:=run_firstCells_some (P:=P) w 1 1 q 1 c1 [.int .u32 0] rfl hone
   have hs:=run_storeCells_at (P:=P) b n e2 [.int .u32 0] 0 cs w h1 (by simp;omega) (by simp[Value.oneCell'])
   have hself:(cs.toList.take (n+0)++[Value.int .u32 0]++cs.toList.drop (n+0+[Value.int .u32 0].length)).toArray=cs:=by
    have h7:=h6 n (Nat.le_refl _) (by omega)
    obtain ⟨h8,h9⟩:=Array.getElem?_eq_some_iff.1 h7;apply Array.ext';show cs.toList.take n++[Value.int .u32 0]++cs.toList.drop (n+1)=cs.toList;rw[←h9,List.append_assoc];show cs.toList.take n++cs.toList[n]::cs.toList.drop (n+1)=cs.toList;rw[List.getElem_cons_drop,List.take_append_drop]
   rw[hself,setRow_self w b cs e2 (0,0) h1] at hs;refine ⟨some ⟨b,0,none⟩,c,w,?_,⟨by simp[hl],fun _=>⟨b,0,rfl,(Array.getElem?_eq_some_iff.1 h1).1,fun j x hx => ?_⟩⟩,hc,by omega,Below.refl _ _⟩
   ·simp[Builtin.append_,run_underlying ht,sizeOf,typeInfo,hi,hsize,Builtin.lenOf,hc,hf,G1,hs]
   ·rw[Nat.zero_add,cell_of_row _ _ j _ e2 (0,0) h1]
    by_cases hj:j < n
    ·rw[List.getElem?_append_left (by omega)] at hx
     obtain ⟨b',off',e',_,hcc⟩:=hr.2 h3;injection e' with e';injection e' with e1 e3;subst e1 e3;have:=hcc j x hx;rw[Nat.zero_add,cell_of_row _ _ j _ e2 (0,0) h1] at this;exact this
    ·rw[List.getElem?_append_right (by omega),hl] at hx
     obtain ⟨hj2,hx2⟩:=List.getElem?_eq_some_iff.1 hx;simp at hj2;obtain rfl:j=n:=by omega
     simp at hx2;subst hx2;exact h6 _ (Nat.le_refl _) (by omega)
  ·have hcells : ∀ j u,(cellsOf .u32 xs)[j]? = some u→w.cell? ((⟨b,0,none⟩:Addr).add j)=some u:=by
    intro j u hu;rw[CZ] at hu;obtain ⟨x,hx,rfl⟩:=Option.map_eq_some_iff.1 hu;obtain ⟨b',off',e',_,hcc⟩:=hr.2 h3;injection e' with e';injection e' with e1 e3;subst e1 e3;rw[G1];exact hcc j x hx
   have h7:=nextslicecap_le (need:=n+1) (old:=c) (by omega)
   have hrun:=run_append_grow (P:=P) w t ty e i _ ht hi hz ⟨b,0,none⟩ n c (cellsOf .u32 xs) (by rw[BF,hsize];omega) hcells q 1 c1 [.int .u32 0] (by rw[hsize];rfl) hone (by omega) (by omega) (by rw[hby];omega)
   have g1:=grownCap_ge w (n+1) c e;have g2:=grownCap_le_maxLen w (n+1) c e (by unfold maxLen;omega)
   have r:=YC w (xs++[0]) (Builtin.zeroCells (Value.int .u32 0).cells (grownCap w (n+1) c e - (n+1))) e;rw[show (cellsOf .u32 (xs++[0])).toArray=(cellsOf .u32 xs).toArray++[Value.int .u32 0].toArray by simp[cellsOf],List.length_append,hl] at r
   exact ⟨_,_,_,hrun,r,g1,by unfold maxLen at g2;omega,((Below.refl _ _).drew).alloc (Nat.le_refl _) _⟩
end Go.Proofs.YtdgbealknnmkoaaGreatDoor
