/- Texts of one proof, put together by a program: each lemma is proved for all values of its variables, under the premises that it states. -/
import Derived.Laws.MakeOwn
import Derived.Test.YtdgbealknnmkoaaGreatDoorPdd17e0fa
set_option linter.unusedVariables false
set_option linter.unusedSimpArgs false
namespace Go.Proofs.YtdgbealknnmkoaaGreatDoor
open Go Go.RowKit
section
variable {P:Program}{N:Nat→Prop}{w:World}{g:Gh}{base:Nat→Prop}
theorem AL {t:TypeId}{d:TypeDesc}(h:P.underlying t=some d)(w:World):(underlying t).run P w = .ok d w:=by simp[underlying,h]
theorem KX {s:TypeId}{fs:Array Field}{f n:Nat}{fd:Field}{b off:Nat}(hu:P.underlying s=some (.struct fs))(hf:fs[f]? = some fd)(hn:Cd P fd.type=some (n+1))(w:World) :
  (Instr.fieldAt s (.pointer (some ⟨b,off,none⟩)) f).run P w = .ok (.pointer (some ⟨b,off+fd.offset,none⟩)) w:=by
 simp[Instr.fieldAt,AL hu,hf,Instr.sureAddr,fieldPlace,C0 hn,D3]
theorem UN {s:TypeId}{fs:Array Field}{f:Nat}{fd:Field}{cs:Array Value}{v:Value}(hu:P.underlying s=some (.struct fs))(hf:fs[f]? = some fd)(w:World)(hp:(part fd.type cs fd.offset).run P w = .ok v w) :
  (Instr.field s (.agg cs) f).run P w = .ok v w:=by
 simp[Instr.field,AL hu,hf,asAgg,hp]
theorem WD {t:TypeId}{b:Bool}{n off:Nat}{cs:Array Value}(ha:VS P t=some b)(hn:Cd P t=some n)(h1:b=false→n=1)(hl:off+n≤cs.size)(w:World) :
  (part t cs off).run P w = .ok (if b then .agg (cs.extract off (off+n)) else cs.getD off undef) w:=by
 cases b with
 | true=>simp[part,Kj ha,C0 hn]
 | false =>
  have:=h1 rfl;subst this;have hlt:off < cs.size:=by omega
  simp[part,Kj ha,hlt]
theorem NF : ∀ (l:List Field) (w:World),l.all (fun f=>(Cd P f.type).isSome)=true→(l.mapM (fun f=>do pure (f.offset,←sizeOf f.type):Field→Sem (Nat×Nat))).run P w = .ok (l.map fun f=>(f.offset,(Cd P f.type).getD 0)) w
 | [],w,_=>by simp
 | f::l,w,h=>by
  simp only[List.all_cons,Bool.and_eq_true] at h;cases hf:Cd P f.type with
  | none=>simp[hf] at h
  | some n =>
   have:=NF l w h.2;simp only[List.mapM_cons,Sem.run_bind,C0 hf,Result.andThen_ok,Sem.run_pure,this,List.map_cons,hf,Option.getD_some]
theorem UP {t:TypeId}{fs:Array Field}{ps:Array (Nat×Value)}{cs':Array Value}(hu:P.underlying t=some (.struct fs))(ha:fs.toList.all (fun f=>(Cd P f.type).isSome)=true)
  {v0:Value} (w:World) (hz:(zeroValue t).run P w = .ok v0 w) (hf:Instr.fill (fun i=>(fs[i]?).map fun f=>(f.offset,(Cd P f.type).getD 0)) v0.cells ps.toList=some cs') :
  (Instr.build t ps).run P w = .ok (.agg cs') w:=by
 have h1:=NF (P:=P) fs.toList w ha;have h2:(fs.mapM (fun f=>do pure (f.offset,←sizeOf f.type):Field→Sem (Nat×Nat))).run P w = .ok (fs.map fun f=>(f.offset,(Cd P f.type).getD 0)) w:=by
  rw[Array.mapM_eq_mapM_toList,map_eq_pure_bind,Sem.run_bind,h1];simp;exact Array.ext' (by simp)
 have e:(fun i:Nat=>(fs.map fun f:Field=>(f.offset,(Cd P f.type).getD 0))[i]?)=(fun i:Nat=>(fs[i]?).map fun f:Field=>(f.offset,(Cd P f.type).getD 0)):=by
  funext i;simp
 rw[←e] at hf;simp only[Instr.build,Sem.run_bind,hz,Result.andThen_ok,AL hu,h2,hf,Sem.run_pure]
theorem Mc {t:TypeId}{v:Value}(w:World):(newVar t v).run P w = .ok ⟨w.heap.size,0,none⟩ (w.alloc (.cells v.cells t)):=by
 simp[newVar,newRow,newObj,Sem.run]
theorem UO {ρ:Operand→Value}{o:Oper}{c:Call}{q:Tmp}{f:FuncId}{caps:Array Value}(ho:o.op = .call c)(hc:c.callee = .value (.tmp q))(hρ:ρ (.tmp q) = .func (.func f) #[] caps)(hf:K3 P f=true)(w:World) :
  (execOp ρ o).run P w = .ok (.enter f (c.args.map ρ++caps)) w:=by
 unfold K3 at hf;cases hfn:P.funcs[f]? with
 | none=>simp[hfn] at hf
 | some fn =>
  simp[hfn] at hf;obtain ⟨h1,h2⟩:=hf;have h3:fn.body.isNone=false:=by cases hb:fn.body <;> simp_all
  simp[execOp,ho,resolve,hc,hρ,Deferred.ofValue,invoke,callFunc,hfn,h1,h3,program,Sem.run,Sem.run_bind];intro hb;rw[hb] at h2;cases h2
theorem Md {ρ:Operand→Value}{o:Oper}{c:Call}{f:FuncId}(ho:o.op = .call c)(hc:c.callee = .value (.func f))(hρ:ρ (.func f) = .func (.func f) #[] #[])(hf:K3 P f=true)(w:World) :
  (execOp ρ o).run P w = .ok (.enter f (c.args.map ρ)) w:=by
 unfold K3 at hf;cases hfn:P.funcs[f]? with
 | none=>simp[hfn] at hf
 | some fn =>
  simp[hfn] at hf;obtain ⟨h1,h2⟩:=hf;have h3:fn.body.isNone=false:=by cases hb:fn.body <;> simp_all
  simp[execOp,ho,resolve,hc,hρ,Deferred.ofValue,invoke,callFunc,hfn,h1,h3,program,Sem.run,Sem.run_bind];intro hb;rw[hb] at h2;cases h2
theorem N3 {t:TypeId}{l:List It}(h:Te P t=some l)(w:World) : ∃ v,(zeroValue t).run P w = .ok v w∧l=DV v.cells.toList:=by
 unfold Te at h;cases hi:P.info? t with
 | none=>simp[hi] at h
 | some i =>
  cases hz:i.zero with
  | none=>simp[hi,hz] at h
  | some v=>simp[hi,hz] at h;exact ⟨v,by simp[zeroValue,run_typeInfo w hi,hz],h.symm⟩
theorem NR : ∀ (l:List Value),(DV l).all It.okB=l.all okCell
 | []=>rfl
 | v::l=>by simp only[DV,List.all_cons,It.okB,NR l]
theorem BoxSem.at {k b:Nat}{e:Ent}(h:BoxSem N w g base k e)(hb:AI g k=some b) :
  ∃ cs m,w.heap[b]? = some (.cells cs e.T (0,0))∧Bt N w g e.its (cs.toList.take m)∧(∀ v∈cs.toList,okCell v=true) ∧ ¬ N b ∧ ¬ base b∧m≤cs.size∧(∀ s n,e.sl=some (s,n)→m=n*s) ∧
   ∀ (w':World) (cs':Array Value) (its':List It),cs'.size=cs.size→(∀ v∈cs'.toList,okCell v=true)→w'.heap[b]? = some (.cells cs' e.T (0,0))→Bt N w' g its' (cs'.toList.take m)→BoxSem N w' g base k { e with its:=its' }:=by
 obtain ⟨gv,hg,h⟩:=h;have hbg:gv.blk=some b:=by unfold AI at hb;rw[hg] at hb;exact hb
 rcases h with ⟨s,n,h1,h2,h3,h4⟩ | ⟨b',cs,l,h1,h2,h3,h4,h5,h6,h7⟩
 ·rw[h2] at hbg;cases hbg
 ·rw[hbg] at h1
  injection h1 with h1;subst h1;rcases h7 with ⟨r1,r2,r3⟩ | ⟨s,n,c,r1,r2,r3,r4,r5,r6,r7⟩
  ·refine ⟨cs,cs.size,h2,?_,h4,h5,h6,Nat.le_refl _,?_,?_⟩
   ·rw[List.take_of_length_le (by simp),r3];exact h3
   ·intro s n hs;rw[r1] at hs;cases hs
   ·intro w' cs' its' q1 q2 q3 q4
    rw[List.take_of_length_le (by simp;omega)] at q4
    exact ⟨gv,hg,.inr ⟨b,cs',cs'.toList,hbg,q3,q4,q2,h5,h6,.inl ⟨r1,r2,rfl⟩⟩⟩
  ·have hle:n*s≤cs.size:=by rw[r5];exact Nat.mul_le_mul_right _ r3
   refine ⟨cs,n*s,h2,by rw[r7];exact h3,h4,h5,h6,hle,?_,?_⟩
   ·intro s' n' hs;rw[r1] at hs;injection hs with hs;injection hs with e1 e2;rw[e1,e2]
   ·intro w' cs' its' q1 q2 q3 q4
    exact ⟨gv,hg,.inr ⟨b,cs',_,hbg,q3,q4,q2,h5,h6,.inr ⟨s,n,c,r1,r2,r3,r4,by rw[q1];exact r5,by rw[List.length_take,Array.length_toList];omega,rfl⟩⟩⟩
theorem Wk {c:List Value}{m off:Nat}{us:List Value}(h:off+us.length≤m)(hm:m≤c.length) :
  (c.take off++us++c.drop (off+us.length)).take m=(c.take m).take off++us++(c.take m).drop (off+us.length):=by
 apply List.ext_getElem?;intro i;simp only[List.getElem?_append,List.getElem?_take,List.getElem?_drop,List.length_append,List.length_take];rw[Nat.min_eq_left (by omega:off≤c.length),Nat.min_eq_left (by omega:off≤min m c.length)]
 by_cases h1:i < off
 ·have:i < m:=by omega
  have:i < off+us.length:=by omega
  simp[*]
 ·by_cases h2:i < off+us.length
  ·have:i < m:=by omega
   simp[*]
  ·by_cases h3:i < m
   ·have e:off+us.length+(i - (off+us.length))=i:=by omega
    simp[h1,h2,h3,e]
   ·have e : ¬ off+us.length+(i - (off+us.length)) < m:=by omega
    simp[h1,h2,h3,e]
theorem VX {z:Array Value}(hz : ∀ v∈z.toList,okCell v=true)(n:Nat) : ∀ v∈(Builtin.zeroCells z n).toList,okCell v=true:=by
 intro v hv;simp only[Builtin.zeroCells,Array.toList_map,List.mem_map] at hv;obtain ⟨i,hi,rfl⟩:=hv;simp only[Array.mem_toList_iff,Array.mem_range] at hi;have hs:0 < z.size:=by
  rcases Nat.eq_zero_or_pos z.size with h | h
  ·rw[h] at hi;omega
  ·exact h
 have hlt:i % z.size < z.size:=Nat.mod_lt _ hs;apply hz;rw[getElem!_pos z _ hlt];simp
theorem CR (z:Array Value)(hz:0 < z.size) : ∀ n,(madeCells z (n*z.size)).toList=(List.replicate n z.toList).flatten
 | 0=>by simp[madeCells]
 | n+1=>by
  have h:=CR z hz n;rw[List.replicate_succ',List.flatten_append,←h];simp only[madeCells,Array.toList_map,Array.toList_range,Nat.add_mul,Nat.one_mul,List.range_add,List.map_append,List.map_map,List.flatten_singleton];congr 1;apply List.ext_getElem?;intro j;by_cases hj:j < z.size
  ·have e:(n*z.size+j) % z.size=j:=by rw[Nat.add_comm,Nat.add_mul_mod_self_right,Nat.mod_eq_of_lt hj]
   simp[hj,e,getElem!_pos]
  ·simp[hj]
theorem J0 {z:List Value} : ∀ (n:Nat),Bt N w g (rep n (DV z)) (List.replicate n z).flatten
 | 0=>rfl
 | n+1=>by
  rw[List.replicate_succ',List.flatten_append,List.flatten_singleton];exact BW (J0 n) (Ft z)
theorem Pj {z:List Value}{P:Value→Prop}(hz : ∀ v∈z,P v)(n:Nat) : ∀ v∈(List.replicate n z).flatten,P v:=by
 intro v hv;simp only[List.mem_flatten,List.mem_replicate] at hv;obtain ⟨l,⟨_,rfl⟩,hv⟩:=hv;exact hz v hv
end
section
variable {P:Program}{N:Nat→Prop}{w:World}{g:Gh}{base:Nat→Prop}
def OwnS (w:World)(T:TypeId)(s:Nat)(A:Option Addr)(n c:Nat)(xs:List Value):Prop :=
 (A=none∧n=0∧c=0∧xs=[]) ∨
 ∃ b cs,A=some ⟨b,0,none⟩∧w.heap[b]? = some (.cells cs T (0,0))∧n≤c∧c≤maxLen∧cs.size=c*s∧cs.toList.take (n*s)=xs∧(∀ v∈cs.toList,okCell v=true)
def VV (w:World)(s:Nat)(X:Option Addr)(m c:Nat)(news:List Value):Prop :=
 (X=none∧m=0∧news=[]) ∨
 ∃ a,X=some a∧news.length=m*s∧(∀ v∈news,okCell v=true) ∧ ∀ j u,news[j]? = some u→w.cell? (a.add j)=some u
theorem OwnS.len {T:TypeId}{s:Nat}{A:Option Addr}{n c:Nat}{xs:List Value}(h:OwnS w T s A n c xs):xs.length=n*s:=by
 rcases h with ⟨_,rfl,_,rfl⟩ | ⟨b,cs,_,_,h1,_,h2,rfl,_⟩
 ·simp
 ·rw[List.length_take,Array.length_toList,h2];exact Nat.min_eq_left (Nat.mul_le_mul_right _ h1)
theorem Ph {c us:List Value}{a b:Nat}{Q:Value→Prop}(h1 : ∀ v∈c,Q v)(h2 : ∀ v∈us,Q v) : ∀ v∈c.take a++us++c.drop b,Q v:=by
 intro v hv;simp only[List.mem_append] at hv;rcases hv with (hv | hv) | hv
 ·exact h1 v (List.mem_of_mem_take hv)
 ·exact h2 v hv
 ·exact h1 v (List.mem_of_mem_drop hv)
theorem Gl {t ty e : TypeId} {i : TypeInfo} {z : Value} (ht : P.underlying t = some (.slice e)) (hi : P.info? e = some i) (hz : i.zero = some z) (hzs : z.cells.size = i.size) (hsz : 0 < i.size) (hzo : ∀ v ∈ z.cells.toList, okCell v = true)
  {A X:Option Addr} {n c m c2:Nat} {xs news:List Value} (hA:OwnS w e i.size A n c xs) (hX:VV w i.size X m c2 news) (h63:n+m≤maxLen) (hbytes:(n+m)*i.bytes≤140737488355328) :
  ∃ A' c' w',(Builtin.append_ #[t,t] ty #[.slice A n c,.slice X m c2]).run P w = .ok (.slice A' (n+m) c') w'∧w.grownBy w' (A.map (·.block))∧OwnS w' e i.size A' (n+m) c' (xs++news)∧(∀ a,A'=some a→a.block=w.heap.size∨A.map (·.block)=some a.block)∧OwnS w' e i.size A n c xs:=by
 have hsmall:n+m≤9223372036854775807:=by simp only[maxLen] at h63;omega
 have hxl:=hA.len;have hb48:(n+m)*i.bytes≤281474976710656:=by omega
 have triv:w.grownBy w (A.map (·.block)):=⟨rfl,rfl,rfl,Nat.le_refl _,fun _ _ _=>rfl⟩
 have key : ∀ (old:Nat),old < n+m→news.length=m*i.size→(∀ v∈news,okCell v=true)→(∀ v∈xs,okCell v=true) → ∀ row,
   OwnS (w.drew.alloc (.cells (xs.toArray++news.toArray++Builtin.zeroCells z.cells (grownCap w (n+m) old e - (n+m))) e)) e i.size (some ⟨w.heap.size,0,none⟩) (n+m) (grownCap w (n+m) old e) (xs++news) ∧
   w.grownBy (w.drew.alloc (.cells (xs.toArray++news.toArray++Builtin.zeroCells z.cells (grownCap w (n+m) old e - (n+m))) e)) row:=by
  intro old ho hl hno hxo row;have hge:=grownCap_ge w (n+m) old e;have hcm:grownCap w (n+m) old e≤maxLen:=grownCap_le_maxLen w (n+m) old e h63;refine ⟨.inr ⟨w.heap.size,_,rfl,heap_alloc_new w.drew _,hge,hcm,?_,?_,?_⟩,⟨rfl,rfl,rfl,by simp,fun k hk _=>Below.heap_alloc w.drew _ k hk⟩⟩
  ·simp only[Array.size_append,List.size_toArray,size_zeroCells,hzs,hxl,hl,←Nat.add_mul]
   congr 1;omega
  ·have hlen:(xs++news).length=(n+m)*i.size:=by rw[List.length_append,hxl,hl,Nat.add_mul]
   simp only[Array.toList_append,List.append_assoc];rw[←List.append_assoc,←hlen];exact List.take_left
  ·intro v hv
   simp only[Array.toList_append,List.mem_append] at hv;rcases hv with (hv | hv) | hv
   ·exact hxo v hv
   ·exact hno v hv
   ·exact VX hzo _ v hv
 rcases hX with ⟨rfl,rfl,rfl⟩ | ⟨a,rfl,hl,hno,hnews⟩
 ·have hnc:n≤c:=by
   rcases hA with ⟨_,rfl,rfl,_⟩ | ⟨b,cs,_,_,h,_⟩
   ·exact Nat.le_refl _
   ·exact h
  refine ⟨A,c,w,?_,triv,by simpa using hA,?_,hA⟩
  ·rcases hA with ⟨rfl,rfl,rfl,_⟩ | ⟨b,cs,rfl,hh,_⟩
   ·simp[Builtin.append_,run_underlying ht,sizeOf,typeInfo,hi,Builtin.lenOf,Builtin.firstCells,loadCells,loadCellsFrom]
   ·simp[Builtin.append_,run_underlying ht,sizeOf,typeInfo,hi,Builtin.lenOf,Builtin.firstCells,loadCells,loadCellsFrom,hnc,storeCells]
  ·intro a ha;right;rw[ha];rfl
 ·rcases hA with ⟨rfl, rfl, rfl, rfl⟩ | ⟨b, cs, rfl, hh, hnc, hcm, hcs, htake, hok⟩
  ·by_cases hm:m=0
   ·subst hm
    have hn:news=[]:=List.eq_nil_of_length_eq_zero (by simpa using hl)
    subst hn;refine ⟨none,0,w,?_,triv,.inl ⟨rfl,rfl,rfl,rfl⟩,by simp,.inl ⟨rfl,rfl,rfl,rfl⟩⟩
    simp[Builtin.append_,run_underlying ht,sizeOf,typeInfo,hi,Builtin.lenOf,Builtin.firstCells,loadCells,loadCellsFrom]
   ·have hr:=run_append_nil (P:=P) w t ty e i z ht hi hz a m c2 news hl hnews (by omega) (by omega) (by simp only[Nat.zero_add] at hb48;exact hb48)
    have hgr:=key 0 (by omega) hl hno (by simp) ((none:Option Addr).map (·.block))
    simp only[Nat.zero_add,List.nil_append,Array.empty_append] at hgr ⊢;exact ⟨_,_,_,hr,hgr.2,hgr.1,fun a ha=>(by injection ha with ha;subst ha;exact .inl rfl),.inl ⟨rfl,rfl,rfl,rfl⟩⟩
  ·have hxo : ∀ v∈xs,okCell v=true:=by rw[←htake];exact fun v hv=>hok v (List.mem_of_mem_take hv)
   by_cases hroom:n+m≤c
   ·have hfit:n*i.size+news.length≤cs.size:=by rw[hl,hcs,←Nat.add_mul];exact Nat.mul_le_mul_right _ hroom
    have hr:=run_append_room (P:=P) w t ty e i ht hi b n c cs hh a m c2 news hl hnews (fun v hv=>okCell.one (hno v hv)) hroom hfit
    refine ⟨_,_,_,hr,⟨rfl,rfl,rfl,by simp,fun k _ hk=>setRow_other w b k _ (fun e=>hk (by simp[e]))⟩,.inr ⟨b,_,rfl,setRow_heap w b cs _ e _ hh,hroom,hcm,?_,?_,?_⟩,fun a ha => ?_,.inr ⟨b,_,rfl,setRow_heap w b cs _ e _ hh,hnc,hcm,?_,?_,Ph hok hno⟩⟩
    ·simp only[List.size_toArray,List.length_append,List.length_take,List.length_drop,Array.length_toList]
     omega
    ·have hlen:(xs++news).length=(n+m)*i.size:=by rw[List.length_append,hxl,hl,Nat.add_mul]
     rw[htake,←hlen];exact List.take_left
    ·exact Ph hok hno
    ·injection ha with ha;subst ha;exact .inr rfl
    ·simp only[List.size_toArray,List.length_append,List.length_take,List.length_drop,Array.length_toList]
     omega
    ·rw[htake,List.append_assoc,←hxl]
     exact List.take_left
   ·have holds : ∀ j u,xs[j]? = some u→w.cell? ((⟨b,0,none⟩:Addr).add j)=some u:=by
     intro j u hj;rw[D3,Nat.zero_add];rw[←htake,List.getElem?_take] at hj;split at hj
     ·simp only[World.cell?,hh]
      simpa using hj
     ·cases hj
    have hr:=run_append_grow (P:=P) w t ty e i z ht hi hz ⟨b,0,none⟩ n c xs hxl holds a m c2 news hl hnews (by omega) (by omega) (growslice_fits (by omega) hbytes)
    have hgr:=key c (by omega) hl hno hxo ((some (⟨b,0,none⟩:Addr)).map (·.block))
    exact ⟨_,_,_,hr,hgr.2,hgr.1,fun a ha=>(by injection ha with ha;subst ha;exact .inl rfl),.inr ⟨b,cs,rfl,by rw[←hh];exact Below.heap_alloc w.drew _ b (Array.getElem?_eq_some_iff.1 hh).1,hnc,hcm,hcs,htake,hok⟩⟩
end
section
variable {P:Program}{I:WInv}{N:Nat→Prop}{w:World}{g:Gh}{base:Nat→Prop}
def upg (g:Gh)(k:Nat)(v:GV):Gh:=fun x=>if x=k then some v else g x
theorem C7 {k:Nat}{v:GV}(h:g k=none):GExt g (upg g k v):=by
 intro x b hx;unfold upg;rw[if_neg]
 ·exact hx
 ·intro e;rw[e,h] at hx;cases hx
theorem Cp {k:Nat}{v:GV}:upg g k v k=some v:=by unfold upg;rw[if_pos rfl]
theorem CC {k j:Nat}{v:GV}(h:j≠k):upg g k v j=g j:=by unfold upg;rw[if_neg h]
theorem DZ {k:Nat}{v:GV}:AI (upg g k v) k=v.blk:=by unfold AI;rw[Cp];rfl
structure OpHyp (P:Program) (I:WInv) (o:Oper) (T:Operand→Option TV) (B:Nat→Option Ent) (nm:Nat) (uses:List Nat) (base:Nat→Prop) (N:Nat→Prop) (g:Gh) (a:Act) (w:World):Prop where
 ops : ∀ x∈o.op.operands,∀ t,T x=some t→t.sem N w g (a.eval x)
 bx : ∀ k∈uses,∀ e,B k=some e→BoxSem N w g base k e
 inj : ∀ k∈uses,∀ j∈uses,∀ e e' b,B k=some e→B j=some e'→AI g k=some b→AI g j=some b→k=j
 fresh:g nm=none
 low : ∀ b,N b→b < w.heap.size
 inv:I.T N w
 hbase : ∀ b,base b→b < w.heap.size
theorem KBelow.of_below {K:Nat→Prop}{n:Nat}{w w':World}(h:Below n w w')(hK : ∀ b,K b→b < n):KBelow K w w':=⟨h.os,h.tape,h.output,h.size,fun b hb=>h.block b (hK b hb)⟩
theorem KBelow.refl (K:Nat→Prop)(w:World):KBelow K w w:=⟨rfl,rfl,rfl,Nat.le_refl _,fun _ _=>rfl⟩
theorem KBelow.trans {K K':Nat→Prop}{w w' w'':World}(h:KBelow K w w')(k:KBelow K' w' w'')(hK : ∀ b,K b→K' b):KBelow K w w'':=⟨k.os.trans h.os,k.tape.trans h.tape,k.output.trans h.output,Nat.le_trans h.size k.size,fun b hb=>(k.block b (hK b hb)).trans (h.block b hb)⟩
theorem KBelow.grown {K:Nat→Prop}{w w' w'':World}{row:Option Nat}(h:KBelow K w w')(hg:w'.grownBy w'' row)(hK : ∀ b,K b→b < w'.heap.size)(hr : ∀ b,row=some b → ¬ K b):KBelow K w w'' :=
 h.trans (K':=K) ⟨hg.os,hg.tape,hg.output,hg.size,fun b hb=>hg.block b (hK b hb) (fun e=>hr b e.symm hb)⟩ (fun _ h=>h)
def Uw (w:World)(g:Gh)(ks:List Nat)(b:Nat):Prop:=b < w.heap.size ∧ ∀ k∈ks,AI g k≠some b
def RF (ef:Eff)(N:Nat→Prop)(g:Gh)(base:Nat→Prop)(a:Act)(w:World)(dst:Option Tmp)(K:Act→World→Prop):Prop :=
 match ef with
 | .val t => ∀ v w',Below w.heap.size w w'→t.sem (Nx N w w') w' g v→K (a.put dst v) w'
 | .st k e => ∀ w' b,AI g k=some b→w.grownBy w' (some b)→Kz w.heap[b]? → ¬ N b → ¬ base b→BoxSem N w' g base k e→K (a.put dst undef) w'
 | .nw t k e => ∀ v w' gv N',(∀ b,N b→N' b)→(∀ b,N' b→Nx N w w' b)→Below w.heap.size w w'→(∀ b,gv.blk=some b→w.heap.size≤b∧b < w'.heap.size)→t.sem N' w' (upg g k gv) v→BoxSem N' w' (upg g k gv) base k e→K (a.put dst v) w'
 | .ap t k k' e => ∀ v w' gv,w.grownBy w' (AI g k)→(∀ b,AI g k=some b→Kz w.heap[b]? ∧ ¬ N b ∧ ¬ base b)→(∀ b,gv.blk=some b→(w.heap.size≤b∧b < w'.heap.size)∨AI g k=some b)→t.sem N w' (upg g k' gv) v→BoxSem N w' (upg g k' gv) base k' e→(∀ e0,BoxSem N w g base k e0→BoxSem N w' (upg g k' gv) base k e0)→K (a.put dst v) w'
 | .cm t nm ks outs => ∀ v w' N' g',(∀ b,N b→N' b)→(∀ b,N' b→N b∨(w.heap.size≤b∧b < w'.heap.size)∨(¬ base b ∧ ∃ k∈ks,AI g k=some b))→(∀ k,k≠nm→g' k=g k)→WStep N w w'→KBelow (Uw w g ks) w w'→(∀ k e,AB outs k=some e→BoxSem N' w' g' base k e) →
   (∀ k j e e' b,AB outs k=some e→AB outs j=some e'→AI g' k=some b→AI g' j=some b→k=j)→(∀ k e b,AB outs k=some e→AI g' k=some b→w.heap.size≤b ∨ ∃ j∈ks,AI g j=some b)→(∀ k e,AB outs k=some e→k=nm∨k∈ks)→t.sem N' w' g' v→K (a.put dst v) w'
theorem Ab1 {t:TV}{v:Value}(h:t.sem N w g v):t.sem (Nx N w w) w g v:=TV.step h (WStep.refl _ _) (fun b hb => .inl hb) (GExt.refl _)
theorem GN {o:Oper}{a:Act}{K:Act→World→Prop}{Q:Exit→Act→World→Prop}{v:Value}{w':World}(h:(execOp a.eval o).run P w = .ok (.value v) w')(hK:K (a.put o.dst v) w'):o.wp P a w K Q:=by
 unfold Oper.wp;rw[h];exact hK
theorem X8 {o : Oper} {T : Operand → Option TV} {h os r : List Ob} {ef : Eff} {uses : List Nat} (hk : kT P o T h = some (ef, uses, os, r)) (ho : Owed P I os) {a : Act} (hT : ∀ x ∈ o.op.operands, ∀ t, T x = some t → t.sem N w g (a.eval x)) :
  ∃ v t w',ef = .val t∧(execOp a.eval o).run P w = .ok (.value v) w'∧Below w.heap.size w w'∧t.sem (Nx N w w') w' g v:=by
 unfold kT at hk;split at hk
 ·cases hk
 ·rename_i k xs hok
  have hmem : ∀ x∈xs,x∈o.op.operands:=by
   unfold opK at hok;split at hok;all_goals (try (simp only[Option.some.injEq,Prod.mk.injEq] at hok;obtain ⟨rfl,rfl⟩:=hok))
   case h_13 c hc =>
    split at hok;all_goals (try (cases hok;done))
    all_goals
     rename_i hcc;simp only[Option.some.injEq,Prod.mk.injEq] at hok;obtain ⟨rfl,rfl⟩:=hok;intro x hx;rw[hc];simp only[Op.operands,Call.operands,hcc]
     simpa using hx
   case h_14=>cases hok
   all_goals
    rename_i hop;rw[hop];first
     | (simp[Op.operands];done)
     | (intro x hx;simpa [Op.operands] using hx)
  split at hk
  ·cases hk
  ·rename_i ts hts
   have hsem:=QI (ρ:=a.eval) (fun x hx t ht=>hT x (hmem x hx) t ht) hts
   have hlit : ∀ vs v t,M3 ts=some vs→Hp P (k.run vs)=some v→Fb v=some t → ∃ v t' w',Eff.val t = .val t'∧(execOp a.eval o).run P w = .ok (.value v) w'∧Below w.heap.size w w'∧t'.sem (Nx N w w') w' g v:=by
    intro vs v t h1 h2 h3;have e:=NS h1 hsem;have hr:=Vd _ h2 w;rw[←e] at hr;exact ⟨v,t,w,rfl,TF hok hr,Below.refl _ _,GF h3⟩
   split at hk
   ·split at hk
    ·split at hk
     ·rename_i k' ts' res r' hsame hnp
      simp only[Option.some.injEq,Prod.mk.injEq] at hk;obtain ⟨rfl,rfl,rfl,rfl⟩:=hk;obtain ⟨v,w',h1,h2,h3⟩:=ho _ (List.mem_singleton.2 rfl) N w g _ hsem;exact ⟨v,res,w',rfl,TF hok h1,h2,h3⟩
     ·cases hk
    ·split at hk
     ·rename_i vs hvs
      split at hk
      ·rename_i v hv
       cases hc:Fb v with
       | none=>rw[hc] at hk;cases hk
       | some t =>
        rw[hc] at hk;simp only[Option.map_some,Option.some.injEq,Prod.mk.injEq] at hk;rw[←hk.1];exact hlit vs v t hvs hv hc
      ·cases hk
     ·cases hk
   ·split at hk
    ·rename_i vs hvs
     split at hk
     ·rename_i v hv
      cases hc:Fb v with
      | none=>rw[hc] at hk;cases hk
      | some t =>
       rw[hc] at hk;simp only[Option.map_some,Option.some.injEq,Prod.mk.injEq] at hk;rw[←hk.1];exact hlit vs v t hvs hv hc
     ·cases hk
    ·cases hk
theorem JR {t e : TypeId} {s b : Nat} {z : List Value} (h : Og P t = some (e, s, b, z)) : ∃ i zv, P.underlying t = some (.slice e) ∧ P.info? e = some i ∧ i.zero = some zv ∧ i.size = s ∧ i.bytes = b ∧ zv.cells.toList = z ∧ zv.cells.size = i.size ∧ 0 < i.size ∧ ∀ v ∈ z, okCell v = true := by
 unfold Og at h;split at h
 ·rename_i e' hu
  split at h
  ·rename_i i hi
   split at h
   ·rename_i zv hz
    split at h
    ·rename_i hc
     simp only[Bool.and_eq_true,List.all_eq_true] at hc;simp only[Option.some.injEq,Prod.mk.injEq] at h;obtain ⟨rfl,rfl,rfl,rfl⟩:=h;exact ⟨i,zv,hu,hi,hz,rfl,rfl,rfl,Nat.eq_of_beq_eq_true hc.1.1,Nat.le_of_ble_eq_true hc.1.2,hc.2⟩
    ·cases h
   ·cases h
  ·cases h
 ·cases h
theorem Oo : ∀ {xs:List It} {off:Nat} {a b:List It},Cj xs off=some (a,b)→xs=a++b
 | xs,0,a,b,h=>by
  have:Cj xs 0=some ([],xs):=by cases xs <;> rfl
  rw[this] at h;injection h with h;injection h with h1 h2;rw[←h1,←h2];rfl
 | [],_+1,_,_,h=>by cases h
 | x::xs,off+1,a,b,h=>by
  simp only[Cj] at h;split at h
  ·cases hc:Cj xs (off+1 - x.n) with
   | none=>rw[hc] at h;cases h
   | some p =>
    rw[hc] at h;injection h with h;injection h with h1 h2;have:=Oo (a:=p.1) (b:=p.2) hc;rw[←h1,←h2,this]
    rfl
  ·cases h
theorem RowAt.field {b off d:Nat}{l:List It0}{a r:List It}(h:RowAt N w b off l)(hc:Cj (l.map It.b) d=some (a,r)):RowAt N w b (off+d) (l.drop a.length):=by
 obtain ⟨cs,T,fr,vs,h1,h2,h3,h4⟩:=h;obtain ⟨_,s2,s3⟩:=Es (g:=G0) hc (Di h4);have e:r=(l.drop a.length).map It.b:=by
  have:=Oo hc;have h5:(l.map It.b).drop a.length=r:=by rw[this,List.drop_left]
  rw[←h5,List.map_drop]
 rw[e] at s2;refine ⟨cs,T,fr,vs.drop d,h1,h2,?_,E0 s2⟩;rw[←List.drop_drop,List.length_drop,←List.drop_take,h3]
theorem RowAt.part {b off:Nat}{l:List It0}(h:RowAt N w b off l){t:TypeId}{c:CT}{hh os r:List Ob}(hp:Hr P t (l.map It.b) 0 hh=some (c,os,r))(ho:Owed P I os) : ∃ v,(loadVar t ⟨b,off,none⟩).run P w = .ok v w∧c.sem N w g v:=by
 obtain ⟨cs,T,fr,vs,h1,h2,h3,h4⟩:=h;have h5:=Di (g:=g) h4;rw[←h3] at h5;obtain ⟨bb,n,ha,hn,k1,k2,k3⟩:=FQ (cs:=(cs.toList.drop off).toArray) (m:=vs.length) hp ho (by simpa using h5)
 simp at k2;by_cases hn0:n=0
 ·have hbt:bb=true:=by cases bb with
   | true=>rfl
   | false=>have:=k1 rfl;omega
  subst hn0 hbt;refine ⟨.agg #[],?_,by simpa using k3⟩
  simp[loadVar,Kj ha,C0 hn,loadCells,loadCellsFrom]
 ·refine ⟨_,G9 ha hn k1 w cs T h2 (by omega),?_⟩
  have e1:(cs.toList.drop off).toArray.extract 0 (0+n)=cs.extract off (off+n):=by
   apply Array.ext';simp[List.drop_take]
  have e2:(cs.toList.drop off).toArray.getD 0 undef=cs.getD off undef:=by
   have q1:off < cs.size:=by omega
   have q2:0 < cs.size - off:=by omega
   simp[Array.getD,q1,q2]
  rw[e1,e2] at k3;exact k3
end
section
variable {P:Program}{I:WInv}{N:Nat→Prop}{w:World}{g:Gh}{base:Nat→Prop}
theorem MZ (w:World)(o:Obj):(w.alloc o).heap[w.heap.size]? = some o:=by
 show (w.heap.push o)[w.heap.size]? = _;simp
theorem Xv {K:Act→World→Prop}{a:Act}{dst:Option Tmp}{t:TypeId}{nm:Nat}{its:List It}{cs:List Value}(hlow : ∀ b,N b→b < w.heap.size)(hb : ∀ b,base b→b < w.heap.size)(hf:g nm=none)(hs:Bt N w g its cs)(hok : ∀ v∈cs,okCell v=true)
  (hK:RF (.nw (.cv (.one (.ptr nm 0))) nm ⟨t,none,its⟩) N g base a w dst K):K (a.put dst (.pointer (some ⟨w.heap.size,0,none⟩))) (w.alloc (.cells cs.toArray t)):=by
 have hw:WStep N w (w.alloc (.cells cs.toArray t)):=WStep.of_below ((Below.refl _ _).alloc (Nat.le_refl _) _);refine hK _ _ (.box w.heap.size) N (fun _ h=>h) (fun _ h => .inl h) ((Below.refl _ _).alloc (Nat.le_refl _) _) ?_ ?_ ?_
 ·intro b hb;injection hb with hb;subst hb;exact ⟨Nat.le_refl _,by simp⟩
 ·exact ⟨w.heap.size,DZ,rfl⟩
 ·refine ⟨.box w.heap.size,Cp,.inr ⟨w.heap.size,cs.toArray,cs,rfl,MZ _ _,Cn hw (fun _ h=>h) (C7 hf) hs,by simpa using hok,?_,fun hc=>absurd (hb _ hc) (Nat.lt_irrefl _),.inl ⟨rfl,rfl,by simp⟩⟩⟩
  intro hn;exact absurd (hlow _ hn) (Nat.lt_irrefl _)
theorem QA {K:Act→World→Prop}{a:Act}{dst:Option Tmp}{t:TypeId}{nm s n:Nat}{its:List It}{cs:List Value}(hlow : ∀ b,N b→b < w.heap.size)(hb : ∀ b,base b→b < w.heap.size)(hf:g nm=none)(hs:Bt N w g its cs)(hok : ∀ v∈cs,okCell v=true)(hl:cs.length=n*s)(hn:n≤maxLen)
  (hK:RF (.nw (.cv (.one (.sl nm))) nm ⟨t,some (s,n),its⟩) N g base a w dst K):K (a.put dst (.slice (some ⟨w.heap.size,0,none⟩) n n)) (w.alloc (.cells cs.toArray t)):=by
 have hw:WStep N w (w.alloc (.cells cs.toArray t)):=WStep.of_below ((Below.refl _ _).alloc (Nat.le_refl _) _);refine hK _ _ (.sl (some ⟨w.heap.size,0,none⟩) n n) N (fun _ h=>h) (fun _ h => .inl h) ((Below.refl _ _).alloc (Nat.le_refl _) _) ?_ ?_ ?_
 ·intro b hb;injection hb with hb;subst hb;exact ⟨Nat.le_refl _,by simp⟩
 ·exact ⟨_,_,_,Cp,rfl⟩
 ·refine ⟨_,Cp,.inr ⟨w.heap.size,cs.toArray,cs,rfl,MZ _ _,Cn hw (fun _ h=>h) (C7 hf) hs,by simpa using hok,?_,fun hc=>absurd (hb _ hc) (Nat.lt_irrefl _),.inr ⟨s,n,n,rfl,rfl,Nat.le_refl _,hn,by simpa using hl,hl,by simp[←hl]⟩⟩⟩
  intro hn;exact absurd (hlow _ hn) (Nat.lt_irrefl _)
theorem Abr {K:Act→World→Prop}{a:Act}{dst:Option Tmp}{k b off:Nat}{e:Ent}{m new:List It}{us:List Value}(hbx:BoxSem N w g base k e)(hb:AI g k=some b)(hup:Ew e.its off new=some m)(hu:Bt N w g new us)(hok : ∀ v∈us,okCell v=true)
  (hK:RF (.st k { e with its:=m }) N g base a w dst K) {t:TypeId} {n:Nat} (hn:Cd P t=some n) (hul:us.length=n) {v:Value} (hv:v.cells=us.toArray) :
  ∃ w',(storeVar t ⟨b,off,none⟩ v).run P w = .ok () w'∧K (a.put dst undef) w':=by
 obtain ⟨cs,q,h1,h2,h3,h4,h5,h6,h7,h8⟩:=BoxSem.at hbx hb;obtain ⟨k1,k2⟩:=Ko hup h2 hu;simp only[List.length_take,Array.length_toList] at k2;have hst:=OI (P:=P) (v:=v) (off:=off) hn w cs e.T h1 us hv hul (by omega) (fun v hv=>okCell.one (hok v hv))
 have hq:Kz w.heap[b]? := by rw[h1];exact fun v hv=>okCell.nu (h3 v hv)
 have hg:w.grownBy (w.setRow b (cs.toList.take off++us++cs.toList.drop (off+us.length)).toArray) (some b) :=
  ⟨rfl,rfl,rfl,by simp[World.setRow],fun k _ hk=>setRow_other w b k _ (fun e=>hk (by rw[e]))⟩
 have hw:WStep N w (w.setRow b (cs.toList.take off++us++cs.toList.drop (off+us.length)).toArray):=by
  refine ⟨hg.size,fun j hj => ?_⟩
  by_cases hjb:j=b
  ·subst hjb;exact .inr ⟨h4,hq⟩
  ·exact .inl (setRow_other w b j _ hjb)
 refine ⟨_,hst,hK _ b hb hg hq h4 h5 (h8 _ _ m ?_ ?_ (setRow_heap w b cs _ _ _ h1) ?_)⟩
 ·simp;omega
 ·simpa using Ph h3 hok
 ·have:=Wk (c:=cs.toList) (m:=q) (off:=off) (us:=us) (by omega) (by simpa using h6)
  show Bt N _ g m (List.take q (cs.toList.take off++us++cs.toList.drop (off+us.length)));rw[this];exact Cn hw (fun _ h=>h) (GExt.refl _) k1
theorem Gw {t e:TypeId}{len:Nat}{ps:Array (Nat×Value)}{i:TypeInfo}{zv:Value}{cs:Array Value}(hu:P.underlying t=some (.slice e))(hi:P.info? e=some i)(hz:i.zero=some zv)(hzs:zv.cells.size=i.size)(hl:len*i.size≤16777216)
  (hf:Instr.fill (fun j=>some (j*i.size,i.size)) (madeCells zv.cells (len*i.size)) ps.toList=some cs) :
  (Instr.buildSlice t len ps).run P w = .ok (.slice (some ⟨w.heap.size,0,none⟩) len len) (w.alloc (.cells cs e)):=by
 have hl' : ¬ (16777216 < len*i.size):=by omega
 unfold madeCells at hf;by_cases h0:len*i.size=0
 ·rw[h0] at hf
  simp only[show Array.range 0 = #[] from rfl,Array.map_empty] at hf;have e0:Array.range 0 = #[]:=rfl;simp[Instr.buildSlice,run_underlying hu,sizeOf,typeInfo,hi,h0,newRow,e0,hf]
 ·simp[Instr.buildSlice,run_underlying hu,sizeOf,typeInfo,hi,h0,newRow,hl',zeroValue,hz,hf]
theorem Ps {k:Nat} : ∀ {l:List Nat},inN l k=true↔k∈l
 | []=>by simp[inN]
 | x::r=>by
  simp only[inN,Bool.or_eq_true,Ps (l:=r),List.mem_cons,Nat.beq_eq];exact ⟨fun h=>h.imp Eq.symm id,fun h=>h.imp Eq.symm id⟩
theorem M6 {k:Nat} : ∀ {l:List Nat},inN l k=true→l[FY l k]? = some k
 | [],h=>by cases h
 | x::r,h=>by
  unfold FY;split
  ·rename_i hx;simp[Nat.eq_of_beq_eq_true hx]
  ·rename_i hx
   simp only[inN,Bool.or_eq_true] at h
   simpa using M6 (h.resolve_left (by simpa using hx))
theorem It.mapN_sem {g2:Gh}{f:Nat→Nat}{p:Nat→Bool}(hg : ∀ j,p j=true→g2 (f j)=g j){x:It}{l:List Value}(hx:x.allN p=true)(h:x.sem N w g l):(x.mapN f).sem N w g2 l:=by
 cases x with
 | b x=>exact h
 | fp x=>exact h
 | ptr k off=>obtain ⟨b,h1,h2⟩:=h;exact ⟨b,by unfold AI at h1 ⊢;rw[hg k hx];exact h1,h2⟩
 | sl k=>obtain ⟨A,n,c,h1,h2⟩:=h;exact ⟨A,n,c,by rw[hg k hx];exact h1,h2⟩
 | clo q l =>
  obtain ⟨cs,h1,h2⟩:=h;refine ⟨cs,Ln (fun r hr b hb => ?_) h1,h2⟩
  have hp:p r.1=true:=List.all_eq_true.1 hx r hr;unfold AI at hb ⊢;rw[hg r.1 hp];exact hb
theorem GP {g2:Gh}{f:Nat→Nat}{p:Nat→Bool}(hg : ∀ j,p j=true→g2 (f j)=g j) : ∀ {xs:List It} {l:List Value},xs.all (It.allN p)=true→Bt N w g xs l→Bt N w g2 (xs.map (It.mapN f)) l
 | [],_,_,h=>h
 | x::xs,_,hn,⟨l1,l2,e,h1,h2⟩=>by
  simp only[List.all_cons,Bool.and_eq_true] at hn;exact ⟨l1,l2,e,It.mapN_sem hg hn.1 h1,GP hg hn.2 h2⟩
theorem CT.mapN_sem {g2:Gh}{f:Nat→Nat}{p:Nat→Bool}(hg : ∀ j,p j=true→g2 (f j)=g j){c:CT}{v:Value}(hc:c.allN p=true)(h:c.sem N w g v):(c.mapN f).sem N w g2 v:=by
 cases c with
 | one x=>exact It.mapN_sem hg hc h
 | ag l=>obtain ⟨vs,e,h1⟩:=h;exact ⟨vs,e,GP hg hc h1⟩
theorem KP {g2:Gh}{f:Nat→Nat}{p:Nat→Bool}(hg : ∀ j,p j=true→g2 (f j)=g j) : ∀ {cs:List CT} {vs:List Value},cs.all (CT.allN p)=true→all2 (CT.sem N w g) cs vs→all2 (CT.sem N w g2) (cs.map (CT.mapN f)) vs
 | [],_,_,h=>h
 | c::cs,_,hn,⟨v,l,e,h1,h2⟩=>by
  simp only[List.all_cons,Bool.and_eq_true] at hn;exact ⟨v,l,e,CT.mapN_sem hg hn.1 h1,KP hg hn.2 h2⟩
theorem TV.mapN_sem {g2:Gh}{f:Nat→Nat}{p:Nat→Bool}(hg : ∀ j,p j=true→g2 (f j)=g j){t:TV}{v:Value}(ht:t.allN p=true)(h:t.sem N w g v):(t.mapN f).sem N w g2 v:=by
 cases t with
 | cv c=>exact CT.mapN_sem hg ht h
 | tu l=>obtain ⟨vs,e,h1⟩:=h;exact ⟨vs,e,KP hg ht h1⟩
theorem BoxSem.mapN {g2:Gh}{f:Nat→Nat}{p:Nat→Bool}(hg : ∀ j,p j=true→g2 (f j)=g j){k:Nat}{e:Ent}(hk:p k=true)(he:e.okN p=true)(hnp:e.sl.isSome=true→e.its.all It.noPtr=true)(h:BoxSem N w g base k e):BoxSem N w g2 base (f k) (e.out f):=by
 obtain ⟨gv,h1,h2⟩:=h;refine ⟨gv,by rw[hg k hk];exact h1,?_⟩
 unfold Ent.out;cases hs:e.sl.isSome with
 | true =>
  rw[if_pos rfl];rcases h2 with ⟨s,n,r1,r2,r3,r4⟩ | ⟨b,cs,l,r1,r2,r3,r4⟩
  ·exact .inl ⟨s,n,r1,r2,r3,CI (hnp hs) r4⟩
  ·exact .inr ⟨b,cs,l,r1,r2,CI (hnp hs) r3,r4⟩
 | false =>
  rw[if_neg (by simp)]
  unfold Ent.okN at he;rw[hs,Bool.false_or] at he;rcases h2 with ⟨s,n,r1,r2,r3,r4⟩ | ⟨b,cs,l,r1,r2,r3,r4⟩
  ·exact .inl ⟨s,n,r1,r2,r3,GP hg he r4⟩
  ·exact .inr ⟨b,cs,l,r1,r2,GP hg he r3,r4⟩
theorem Ent.out_sl {f:Nat→Nat}{e:Ent}(h:e.sl.isSome=true):e.out f=e:=by unfold Ent.out;rw[if_pos h]
theorem F4 : ∀ {B:Bxs} {k:Nat} {e:Ent},NpB B→AB B k=some e→e.sl.isSome=true→e.its.all It.noPtr=true
 | [],_,_,_,h,_=>by cases h
 | (j,none)::r,k,e,hn,h,hs=>by
  simp only[AB] at h;split at h
  ·cases h
  ·exact F4 (B:=r) hn h hs
 | (j,some u)::r,k,e,hn,h,hs=>by
  simp only[AB] at h;split at h
  ·injection h with h
   subst h;exact hn.1 hs
  ·exact F4 hn.2 h hs
theorem BoxSem.rebase {base':Nat→Prop}{k:Nat}{e:Ent}(h:BoxSem N w g base k e)(hb : ∀ b,AI g k=some b → ¬ base' b):BoxSem N w g base' k e:=by
 obtain ⟨gv,h1,h2⟩:=h;refine ⟨gv,h1,?_⟩;rcases h2 with h2 | ⟨b,cs,l,r1,r2,r3,r4,r5,r6,r7⟩
 ·exact .inl h2
 ·exact .inr ⟨b,cs,l,r1,r2,r3,r4,r5,hb b (by unfold AI;rw[h1];exact r1),r7⟩
theorem Dt {k j:Nat}{v:Option Ent}{B:Bxs}:AB ((k,v)::B) j=if k=j then v else AB B j:=by
 simp only[AB];by_cases h:k=j
 ·rw[if_pos h,if_pos (by rw[h];exact Nat.beq_refl _)]
 ·rw[if_neg h,if_neg (fun hb=>h (Nat.eq_of_beq_eq_true hb))]
theorem NY {B : Nat → Option Ent} {ks0 : List Nat} : ∀ {l : List Nat} {i0 : Nat} {ins : Bxs} {i : Nat} {e : Ent}, Lt B ks0 l i0 = some ins → AB ins i = some e → ∃ j k e0, i = i0 + j ∧ l[j]? = some k ∧ B k = some e0 ∧ e = e0.out (FY ks0) ∧ e0.okN (inN ks0) = true
 | [],i0,ins,i,e,h,hl=>by simp only[Lt,Option.some.injEq] at h;subst h;cases hl
 | k::r,i0,ins,i,e,h,hl=>by
  simp only[Lt] at h;split at h
  ·rename_i e0 l h1 h2
   split at h
   ·rename_i hall
    injection h with h;subst h;rw[Dt] at hl;split at hl
    ·rename_i hi
     injection hl with hl;exact ⟨0,k,e0,by omega,rfl,h1,hl.symm,hall⟩
    ·obtain ⟨j,k',e1,r1,r2,r3⟩:=NY h2 hl
     exact ⟨j+1,k',e1,by omega,by simpa using r2,r3⟩
   ·cases h
  ·cases h
theorem QW {B : Nat → Option Ent} {ks0 : List Nat} : ∀ {l : List Nat} {i0 : Nat} {ins : Bxs} {j : Nat}, Lt B ks0 l i0 = some ins → j < l.length → ∃ e, AB ins (i0 + j) = some e
 | [],i0,ins,j,h,hj=>by cases hj
 | k::r,i0,ins,j,h,hj=>by
  simp only[Lt] at h;split at h
  ·rename_i e l' h1 h2
   split at h
   ·injection h with h
    subst h;cases j with
    | zero=>exact ⟨_,by rw[Nat.add_zero,Dt,if_pos rfl]⟩
    | succ j =>
     obtain ⟨e',he'⟩:=QW h2 (j:=j) (Nat.lt_of_succ_lt_succ hj);refine ⟨e',?_⟩;rw[Dt,if_neg (by omega),show i0+(j+1)=i0+1+j by omega]
     exact he'
   ·cases h
  ·cases h
theorem F6 {B:Nat→Option Ent}{ks0:List Nat} : ∀ {l:List Nat} {i0:Nat} {ins:Bxs},Lt B ks0 l i0=some ins → ∀ k∈l,∃ e,B k=some e
 | [],_,_,_,k,hk=>by cases hk
 | x::r,i0,ins,h,k,hk=>by
  simp only[Lt] at h;split at h
  ·rename_i e0 l h1 h2
   rcases List.mem_cons.1 hk with h | hk
   ·subst h;exact ⟨e0,h1⟩
   ·exact F6 h2 k hk
  ·cases h
theorem Mu {f:Nat→Nat}{n:Nat} : ∀ {outs:Bxs} {k:Nat} {e:Ent},K0 n outs=true→AB (Lc f outs) k=some e → ∃ i e0,AB outs i=some e0∧k=f i∧e=e0.out f∧Fz n i=true∧e0.okN (Fz n)=true
 | [],_,_,_,h=>by cases h
 | (i,none)::r,_,_,ho,_=>by cases ho
 | (i,some e0)::r,k,e,ho,h=>by
  simp only[K0,Bool.and_eq_true] at ho;simp only[Lc] at h;rw[Dt] at h;split at h
  ·rename_i hi
   injection h with h;exact ⟨i,e0,by rw[Dt,if_pos rfl],hi.symm,h.symm,ho.1.1,ho.1.2⟩
  ·rename_i hi
   obtain ⟨j,e1,r1,r2,r3⟩:=Mu ho.2 h;refine ⟨j,e1,?_,r2,r3⟩;rw[Dt,if_neg]
   ·exact r1
   ·intro hij;exact hi (by rw[hij];exact r2.symm)
theorem K4 : ∀ {l:List Nat} {i j k:Nat},K5 l=true→l[i]? = some k→l[j]? = some k→i=j
 | [],_,_,_,_,h,_=>by simp at h
 | x::r,i,j,k,hn,hi,hj=>by
  simp only[K5,Bool.and_eq_true,Bool.not_eq_true'] at hn;have no : ∀ {y:Nat},r[y]? = some x→False:=by
   intro y hy;have:inN r x=true:=Ps.2 (List.mem_of_getElem? hy);rw[hn.1] at this;cases this
  cases i with
  | zero =>
   cases j with
   | zero=>rfl
   | succ j=>simp at hi hj;subst hi;exact (no hj).elim
  | succ i =>
   cases j with
   | zero=>simp at hi hj;subst hj;exact (no hi).elim
   | succ j=>simp at hi hj;rw[K4 hn.2 hi hj]
theorem ZV {B:Nat→Option Ent}{ks0:List Nat}{l:List Nat}{ins:Bxs}(h:Lt B ks0 l 0=some ins)(hl:l.length≤4):l.length≤nI ins:=by
 unfold nI;split
 ·exact hl
 ·rename_i hn
  by_cases h4:l.length≤3
  ·exact h4
  ·obtain ⟨e,he⟩:=QW h (j:=3) (by omega)
   rw[show 0+3=3 from rfl,hn] at he;cases he
theorem Qg {f : FuncId} {ks : List Nat} {B : Nat → Option Ent} {ins : Bxs} {l : List CT} {outs : Bxs} {res : TV} {nm : Nat} (hsp : SpM P I f ins (l.map (CT.mapN (FY ks))) outs res) (hnpi : NpB ins) (hnpo : NpB outs) (hins : Lt B ks ks 0 = some ins) (hall : l.all (CT.allN (inN ks)) = true) (hnd : K5 ks = true) (hlen : ks.length ≤ 4)
  (hout:K0 ks.length outs=true) (hres:res.allN (Fz ks.length)=true) (hI:I.T N w) (hlow : ∀ b,N b→b < w.heap.size) (hbase : ∀ b,base b→b < w.heap.size) (hbx : ∀ k∈ks,∀ e,B k=some e→BoxSem N w g base k e)
  (hinj : ∀ k∈ks,∀ j∈ks,∀ e e' b,B k=some e→B j=some e'→AI g k=some b→AI g j=some b→k=j) (hf:g nm=none) {vs:List Value} (hargs:all2 (CT.sem N w g) l vs)
  {K:Act→World→Prop} {a:Act} {dst:Option Tmp} (hK:RF (.cm (res.mapN (DW ks nm)) nm ks (Lc (DW ks nm) outs)) N g base a w dst K):Calls P f vs.toArray w fun en w' => ∃ v,en = .returned v∧K (a.put dst v) w':=by
 have hnm : ∀ k∈ks,k≠nm:=by
  intro k hk h;obtain ⟨e,he⟩:=F6 hins k hk;obtain ⟨gv,h1,_⟩:=hbx k hk e he;rw[h,hf] at h1;cases h1
 let gc:Gh:=fun i=>(ks[i]?).bind g
 have hgc : ∀ k,inN ks k=true→gc (FY ks k)=g k:=fun k hk=>by show (ks[FY ks k]?).bind g=g k;rw[M6 hk];rfl
 have hin : ∀ i e,AB ins i=some e → ∃ k e0,ks[i]? = some k∧B k=some e0∧e=e0.out (FY ks)∧e0.okN (inN ks)=true:=by
  intro i e h;obtain ⟨j,k,e0,r1,r2⟩:=NY hins h;have:i=j:=by omega
  subst this;exact ⟨k,e0,r2⟩
 have hblk : ∀ i k,ks[i]? = some k→AI gc i=AI g k:=by
  intro i k h;unfold AI;show ((ks[i]?).bind g).bind _=_;rw[h];rfl
 have hcall:=hsp N (Uw w g ks) w gc vs hI hlow (fun b hb=>hb.1) ?_ ?_ ?_ (KP hgc hall hargs)
 ·refine hcall.mono ?_
  rintro en w' ⟨v,N',g',rfl,k1,k2,k3,k4,k5,k6,k7⟩;have hnotK : ∀ b,¬ Uw w g ks b→w.heap.size≤b ∨ ∃ k∈ks,AI g k=some b:=by
   intro b hb;by_cases h1:b < w.heap.size
   ·right
    apply Classical.byContradiction;intro hno;exact hb ⟨h1,fun k hk hkb=>hno ⟨k,hk,hkb⟩⟩
   ·exact .inl (Nat.not_lt.1 h1)
  let gn:Gh:=fun k=>if k=nm then g' 2 else g k
  have hback : ∀ j,Fz ks.length j=true→gn (DW ks nm j)=g' j:=by
   intro j hj;unfold Fz at hj;show (if DW ks nm j=nm then g' 2 else g (DW ks nm j))=g' j
   by_cases h2:j=2
   ·subst h2;rw[if_pos (by rfl)]
   ·have hlt:j < ks.length:=by
     rw[Bool.or_eq_true] at hj;rcases hj with hj | hj
     ·exact Nat.le_of_ble_eq_true hj
     ·exact absurd (Nat.eq_of_beq_eq_true hj) h2
    have e1:DW ks nm j=ks[j]:=by
     unfold DW;rw[if_neg (fun hb=>h2 (Nat.eq_of_beq_eq_true hb)),List.getD_eq_getElem?_getD,List.getElem?_eq_getElem hlt];rfl
    rw[e1,if_neg (hnm _ (List.getElem_mem hlt))];obtain ⟨e,he⟩:=F6 hins _ (List.getElem_mem hlt);obtain ⟨gv,h1,_⟩:=hbx _ (List.getElem_mem hlt) e he;rw[h1,k6 j gv (by rcases (show j=0∨j=1∨j=3 by omega) with h | h | h <;> rw[h] <;> rfl) (by show (ks[j]?).bind g=_;rw[List.getElem?_eq_getElem hlt];exact h1)]
  have hlook : ∀ k e,AB (Lc (DW ks nm) outs) k=some e → ∃ i e0,AB outs i=some e0∧k=DW ks nm i∧e=e0.out (DW ks nm)∧Fz ks.length i=true∧e0.okN (Fz ks.length)=true:=fun k e h=>Mu hout h
  have hblk' : ∀ i,Fz ks.length i=true→AI gn (DW ks nm i)=AI g' i:=fun i hi=>by unfold AI;rw[hback i hi]
  refine ⟨v,rfl,hK v w' N' gn k1 ?_ (fun k hk=>by show (if k=nm then _ else _)=_;rw[if_neg hk]) ?_ k3 ?_ ?_ ?_ ?_ (TV.mapN_sem hback hres k7)⟩
  ·intro b hb
   rcases k2 b hb with h | ⟨h1,h2⟩
   ·exact .inl h
   ·rcases hnotK b h1 with h | ⟨k,hk,hkb⟩
    ·exact .inr (.inl ⟨h,h2⟩)
    ·refine .inr (.inr ⟨?_,k,hk,hkb⟩)
     obtain ⟨e,he⟩:=F6 hins k hk;obtain ⟨_,_,_,_,_,_,h6,_⟩:=(hbx k hk e he).at hkb;exact h6
  ·refine ⟨k3.size,fun b hb => ?_⟩
   by_cases h:Uw w g ks b
   ·exact .inl (k3.block b h)
   ·rcases hnotK b h with h | ⟨k,hk,hkb⟩
    ·omega
    ·obtain ⟨e,he⟩:=F6 hins k hk
     obtain ⟨cs,m,h1,_,h3,h4,_⟩:=(hbx k hk e he).at hkb;exact .inr ⟨h4,by rw[h1];exact fun v hv=>okCell.nu (h3 v hv)⟩
  ·intro k e h
   obtain ⟨i,e0,r1,rfl,rfl,r4,r5⟩:=hlook k e h;refine (BoxSem.mapN hback r4 r5 (F4 hnpo r1) (k4 i e0 r1)).rebase ?_;intro b hb hbb;rw[hblk' i r4] at hb;obtain ⟨_,_,_,_,_,_,h6,_⟩:=(k4 i e0 r1).at hb;refine h6 ⟨hbase b hbb,fun k hk hkb => ?_⟩
   obtain ⟨e,he⟩:=F6 hins k hk;obtain ⟨_,_,_,_,_,_,h7,_⟩:=(hbx k hk e he).at hkb;exact h7 hbb
  ·intro k j e e' b h1 h2 h3 h4
   obtain ⟨i,e0,r1,rfl,rfl,r4,r5⟩:=hlook k e h1;obtain ⟨i',e0',s1,rfl,rfl,s4,s5⟩:=hlook j e' h2;rw[hblk' i r4] at h3;rw[hblk' i' s4] at h4;rw[k5 i i' e0 e0' b r1 s1 h3 h4]
  ·intro k e b h1 h3
   obtain ⟨i,e0,r1,rfl,rfl,r4,r5⟩:=hlook k e h1;rw[hblk' i r4] at h3;obtain ⟨_,_,_,_,_,_,h6,_⟩:=(k4 i e0 r1).at h3;exact hnotK b h6
  ·intro k e h1
   obtain ⟨i,e0,r1,rfl,rfl,r4,r5⟩:=hlook k e h1;unfold Fz at r4;by_cases h2:i=2
   ·subst h2;exact .inl rfl
   ·have hlt:i < ks.length:=by
     rw[Bool.or_eq_true] at r4;rcases r4 with hj | hj
     ·exact Nat.le_of_ble_eq_true hj
     ·exact absurd (Nat.eq_of_beq_eq_true hj) h2
    right;unfold DW;rw[if_neg (fun hb=>h2 (Nat.eq_of_beq_eq_true hb)),List.getD_eq_getElem?_getD,List.getElem?_eq_getElem hlt]
    exact List.getElem_mem hlt
 ·intro i e h
  obtain ⟨k,e0,r1,r2,rfl,r4⟩:=hin i e h;have hk:k∈ks:=List.mem_of_getElem? r1;have hki:=Ps.2 hk;have ei:FY ks k=i:=K4 hnd (M6 hki) r1;have:=BoxSem.mapN hgc hki r4 (fun hs=>F4 hnpi (by rw[←Ent.out_sl (f:=FY ks) hs];exact h) hs) (hbx k hk e0 r2)
  rw[ei] at this;refine this.rebase ?_;intro b hb hkept;rw[hblk i k r1] at hb;exact hkept.2 k hk hb
 ·intro i j e e' b h1 h2 h3 h4
  obtain ⟨k,e0,r1,r2,_⟩:=hin i e h1;obtain ⟨k',e0',s1,s2,_⟩:=hin j e' h2;rw[hblk i k r1] at h3;rw[hblk j k' s1] at h4;have:=hinj k (List.mem_of_getElem? r1) k' (List.mem_of_getElem? s1) e0 e0' b r2 s2 h3 h4;subst this;exact K4 hnd r1 s1
 ·intro k hk
  show (ks[k]?).bind g=none;rw[List.getElem?_eq_none (Nat.le_trans (ZV hins hlen) hk)];rfl
end
section
variable {P:Program}{I:WInv}{N:Nat→Prop}{w:World}{g:Gh}{base:Nat→Prop}
theorem BoxSem.own {k s n:Nat}{e:Ent}(h:BoxSem N w g base k e)(hs:e.sl=some (s,n)) : ∃ A c xs,g k=some (.sl A n c)∧OwnS w e.T s A n c xs∧Bt N w g e.its xs∧(∀ b,A.map (·.block)=some b→Kz w.heap[b]? ∧ ¬ N b ∧ ¬ base b):=by
 obtain ⟨gv,hg,h⟩:=h;rcases h with ⟨s',n',h1,h2,h3,h4⟩ | ⟨b,cs,l,h1,h2,h3,h4,h5,h6,h7⟩
 ·rw[hs] at h1
  injection h1 with h1;injection h1 with e1 e2;subst e1 e2 h3;exact ⟨none,0,[],by rw[hg,h2],.inl ⟨rfl,rfl,rfl,rfl⟩,h4,by simp⟩
 ·rcases h7 with ⟨r1,r2,r3⟩ | ⟨s',n',c,r1,r2,r3,r4,r5,r6,r7⟩
  ·rw[hs] at r1;cases r1
  ·rw[hs] at r1
   injection r1 with r1;injection r1 with e1 e2;subst e1 e2;refine ⟨some ⟨b,0,none⟩,c,l,by rw[hg,r2],.inr ⟨b,cs,rfl,h2,r3,r4,r5,r7,h4⟩,h3,?_⟩
   intro b' hb';injection hb' with hb';subst hb';exact ⟨by rw[h2];exact fun v hv=>okCell.nu (h4 v hv),h5,h6⟩
theorem OwnS.src {T:TypeId}{s:Nat}{A:Option Addr}{n c:Nat}{xs:List Value}(h:OwnS w T s A n c xs):VV w s A n c xs:=by
 rcases h with h | ⟨b,cs,h1,h2,h3,h4,h5,h6,h7⟩
 ·exact .inl ⟨h.1,h.2.1,h.2.2.2⟩
 ·refine .inr ⟨_,h1,(OwnS.len (.inr ⟨b,cs,h1,h2,h3,h4,h5,h6,h7⟩)),fun v hv=>h7 v ?_,?_⟩
  ·rw[←h6] at hv;exact List.mem_of_mem_take hv
  ·intro j u hj
   rw[D3,Nat.zero_add];rw[←h6,List.getElem?_take] at hj;split at hj
   ·simp only[World.cell?,h2];simpa using hj
   ·cases hj
theorem TC {T:TypeId}{s nm n c:Nat}{A:Option Addr}{xs:List Value}{its:List It}(h:OwnS w T s A n c xs)(hg:g nm=some (.sl A n c))(hs:Bt N w g its xs)(hb : ∀ b,A.map (·.block)=some b → ¬ N b ∧ ¬ base b):BoxSem N w g base nm ⟨T,some (s,n),its⟩:=by
 have hl:=h.len;rcases h with ⟨rfl,rfl,rfl,rfl⟩ | ⟨b,cs,rfl,h2,h3,h4,h5,h6,h7⟩
 ·exact ⟨_,hg,.inl ⟨s,0,rfl,rfl,rfl,hs⟩⟩
 ·exact ⟨_,hg,.inr ⟨b,cs,xs,rfl,h2,hs,h7,(hb b rfl).1,(hb b rfl).2,.inr ⟨s,n,c,rfl,rfl,h3,h4,h5,hl,h6⟩⟩⟩
theorem Gq {w':World}{row:Option Nat}(hg:w.grownBy w' row)(hq : ∀ b,row=some b→Kz w.heap[b]? ∧ ¬ N b):WStep N w w':=by
 refine ⟨hg.size,fun b hb => ?_⟩
 by_cases h:some b=row
 ·exact .inr ⟨(hq b h.symm).2,(hq b h.symm).1⟩
 ·exact .inl (hg.block b hb h)
theorem ZF {T : TypeId} {s k n c : Nat} {A : Option Addr} {xs : List Value} {e0 : Ent} {w' : World} {g' : Gh} (h0 : BoxSem N w g base k e0) (ho : OwnS w T s A n c xs) (ho' : OwnS w' T s A n c xs) (hg : g k = some (.sl A n c)) (hgg : GExt g g') (hw : WStep N w w') : BoxSem N w' g' base k e0 := by
 obtain ⟨gv,h1,h2⟩:=h0;rw[hg] at h1;injection h1 with h1;subst h1;refine ⟨_,hgg k _ hg,?_⟩;rcases h2 with ⟨s0,n0,q1,q2,q3,q4⟩ | ⟨b,cs,l,q1,q2,q3,q4,q5,q6,q7⟩
 ·exact .inl ⟨s0,n0,q1,q2,q3,Cn hw (fun _ h=>h) hgg q4⟩
 ·rcases q7 with ⟨_, q7, _⟩ | ⟨s0, n0, c0, r1, r2, r3, r4, r5, r6, r7⟩
  ·cases q7
  ·injection r2 with r2 r8 r9
   subst r2 r8 r9;rcases ho with ⟨h,_⟩ | ⟨b1,cs1,p1,p2,p3,p4,p5,p6,p7⟩
   ·cases h
   ·injection p1 with p1
    injection p1 with p1;subst p1;rw[q2] at p2;injection p2 with p2;injection p2 with p2 p8;subst p2;rcases ho' with ⟨h,_⟩ | ⟨b2,cs2,u1,u2,u3,u4,u5,u6,u7⟩
    ·cases h
    ·injection u1 with u1
     injection u1 with u1;subst u1;refine .inr ⟨b,cs2,l,rfl,by rw[u2,p8],Cn hw (fun _ h=>h) hgg q3,u7,q5,q6,.inr ⟨s0,n,c,r1,rfl,r3,r4,?_,r6,?_⟩⟩
     ·rw[u5,←p5,r5]
     ·by_cases hc:c=0
      ·have:n=0:=by omega
       subst this;rw[←r7];simp
      ·have hs0:s0=s:=Nat.eq_of_mul_eq_mul_left (Nat.pos_of_ne_zero hc) (by rw[←r5,←p5])
       rw[hs0] at r7 ⊢;rw[u6,←p6,r7]
theorem BoxSem.re {k k':Nat}{e:Ent}{g':Gh}{gv:GV}(h:BoxSem N w (JD gv) base k e)(hn:e.its.all It.noPtr=true)(hg:g' k'=some gv):BoxSem N w g' base k' e:=by
 obtain ⟨gv',h1,h2⟩:=h;have h1:gv'=gv:=by
  unfold JD at h1;split at h1
  ·injection h1 with h1;exact h1.symm
  ·cases h1
 subst h1;refine ⟨gv',hg,?_⟩;rcases h2 with ⟨s,n,r1,r2,r3,r4⟩ | ⟨b,cs,l,r1,r2,r3,r4⟩
 ·exact .inl ⟨s,n,r1,r2,r3,CI hn r4⟩
 ·exact .inr ⟨b,cs,l,r1,r2,CI hn r3,r4⟩
theorem BoxSem.low {base':Nat→Prop}{k:Nat}{e:Ent}(h:BoxSem N w g base' k e)(hb : ∀ b,base b→base' b):BoxSem N w g base k e:=by
 obtain ⟨gv,h1,h2⟩:=h;refine ⟨gv,h1,?_⟩;rcases h2 with h2 | ⟨b,cs,l,r1,r2,r3,r4,r5,r6,r7⟩
 ·exact .inl h2
 ·exact .inr ⟨b,cs,l,r1,r2,r3,r4,r5,fun hc=>r6 (hb _ hc),r7⟩
theorem Xi {nm:Nat}{rest:Option (List CT)}{A:Option Addr}{n c:Nat}{g':Gh}{v:Value}(hr:ON rest=true)(hg:g' nm=some (.sl A n c))(h:(OO 0 rest).sem N w (JD (.sl A n c)) v):(OO nm rest).sem N w g' v:=by
 have key : ∀ {u:Value},(CT.one (.sl 0)).sem N w (JD (.sl A n c)) u→(CT.one (.sl nm)).sem N w g' u:=by
  rintro u ⟨A',n',c',h1,h2⟩;have h1:some (GV.sl A n c)=some (.sl A' n' c'):=h1;injection h1 with h1;injection h1 with q1 q2 q3;subst q1 q2 q3;exact ⟨A,n,c,hg,h2⟩
 cases rest with
 | none=>exact key h
 | some l =>
  obtain ⟨vs,e,u,r,e2,h1,h2⟩:=h;exact ⟨vs,e,u,r,e2,key h1,DH hr h2⟩
theorem YV {o:Oper}{a:Act}{K:Act→World→Prop}{Q:Exit→Act→World→Prop}{c:Call}{s x:Operand}{t:TypeId}(ho:o.op = .call c)(hc:c.callee = .builtin .append)(ha:c.args.toList=[s,x])(hat:c.argTypes.toList=[t,t])
  {v':Value} {w':World} (hr:(Builtin.append_ #[t,t] o.type #[a.eval s,a.eval x]).run P w = .ok v' w') (hK:K (a.put o.dst v') w'):o.wp P a w K Q:=by
 have h1:c.args = #[s,x]:=by rw[←Array.toArray_toList (xs:=c.args),ha]
 have h2:c.argTypes = #[t,t]:=by rw[←Array.toArray_toList (xs:=c.argTypes),hat]
 unfold Oper.wp;simp only[execOp,ho,resolve,hc,invoke,builtin,h1,h2,Sem.run_bind,Sem.run_pure,Result.andThen_ok,List.map_toArray,List.map_cons,List.map_nil,hr];exact hK
theorem AbQ {x y:Nat}(h:x*y≤281474976710656):(x:Int)*(y:Int)≤281474976710656:=by
 have h:((x*y:Nat):Int)≤281474976710656:=by omega
 rwa [Int.natCast_mul] at h
theorem Ac4 {x y:Bool}(h:(x&&y)=true):x=true∧y=true:=by simpa using h
theorem Vr {n:Nat}(h:n≤maxLen):n≤9223372036854775807:=by simp only[maxLen] at h;omega
set_option maxHeartbeats 4000000 in
theorem SH {o : Oper} {T : Operand → Option TV} {B : Nat → Option Ent} {nm : Nat} {h os r : List Ob} {ef : Eff} {uses : List Nat} (hh : XZ P o T B nm h = some (ef, uses, os, r)) (hob : Owed P I os) {a : Act}
  (hT:OpHyp P I o T B nm uses base N g a w) {K:Act→World→Prop} {Q:Exit→Act→World→Prop} (hK:RF ef N g base a w o.dst K):o.wp P a w K Q:=by
 have hk : ∀ {ef' us os' r'},kT P o T h=some (ef',us,os',r')→Owed P I os'→ef=ef'→o.wp P a w K Q:=by
  intro ef' us os' r' hp ho he;obtain ⟨v,t,w',e1,e2,e3,e4⟩:=X8 hp ho hT.ops;subst he e1;exact GN e2 (hK v w' e3 e4)
 have hval : ∀ t v,ef = .val t→(execOp a.eval o).run P w = .ok (.value v) w→t.sem N w g v→o.wp P a w K Q:=by
  intro t v he hr hs;subst he;exact GN hr (hK v w (Below.refl _ _) (Ab1 hs))
 have hops:=hT.ops;have hbx:=hT.bx;unfold XZ at hh;split at hh
 ·rename_i x ho
  cases ht:T x with
  | none=>simp[ht] at hh
  | some t =>
   simp[ht] at hh;exact hval t (a.eval x) hh.1.symm (by simp[execOp,ho]) (hops x (by simp[ho,Op.operands]) t ht)
 ·rename_i x ho
  cases ht:T x with
  | none=>simp[ht] at hh
  | some t =>
   simp[ht] at hh;exact hval t (a.eval x) hh.1.symm (by simp[execOp,ho]) (hops x (by simp[ho,Op.operands]) t ht)
 ·rename_i x ho
  split at hh
  ·rename_i k off ht
   simp only[Option.some.injEq,Prod.mk.injEq] at hh;obtain ⟨b,hg,he⟩:=hops x (by simp[ho,Op.operands]) _ ht
   injection he with he;exact hval _ (a.eval x) hh.1.symm (by simp[execOp,ho,he]) ⟨b,hg,by rw[he]⟩
  ·rename_i l ht
   simp only[Option.some.injEq,Prod.mk.injEq] at hh;obtain ⟨b,off,he,hr⟩:=hops x (by simp[ho,Op.operands]) _ ht
   injection he with he;exact hval _ (a.eval x) hh.1.symm (by simp[execOp,ho,he]) ⟨b,off,by rw[he],hr⟩
  ·cases hh
 ·rename_i x i ho
  split at hh
  ·rename_i l ht
   cases hc:l[i]? with
   | none=>simp[hc] at hh
   | some c =>
    simp[hc] at hh;obtain ⟨vs,e,hs⟩:=hops x (by simp[ho,Op.operands]) _ ht
    have hget : ∀ (l:List CT) (vs:List Value) (i:Nat) (c:CT),all2 (CT.sem N w g) l vs→l[i]? = some c → ∃ v,vs[i]? = some v∧c.sem N w g v:=by
     intro l;induction l with
     | nil=>intro vs i c _ hc;simp at hc
     | cons d l ih =>
      rintro vs i c ⟨v,l',e,h1,h2⟩ hc;cases i with
      | zero=>simp at hc;subst hc;exact ⟨v,by simp[e],h1⟩
      | succ i=>simp at hc;obtain ⟨u,h3,h4⟩:=ih l' i c h2 hc;exact ⟨u,by simp[e,h3],h4⟩
    obtain ⟨v,hv1,hv2⟩:=hget l vs i c hs hc;exact hval (.cv c) v hh.1.symm (by simp[execOp,ho,Instr.extract,e,hv1]) hv2
  ·cases hh
 ·rename_i c x y ho
  split at hh
  ·rename_i ht
   have hc:[a.eval c]=[.bool true]:=hops c (by simp[ho,Op.operands]) _ ht
   injection hc with hc;cases hx:T x with
   | none=>simp[hx] at hh
   | some t =>
    simp[hx] at hh;exact hval t (a.eval x) hh.1.symm (by simp[execOp,ho,hc,asBool]) (hops x (by simp[ho,Op.operands]) t hx)
  ·rename_i ht
   have hc:[a.eval c]=[.bool false]:=hops c (by simp[ho,Op.operands]) _ ht
   injection hc with hc;cases hx:T y with
   | none=>simp[hx] at hh
   | some t =>
    simp[hx] at hh;exact hval t (a.eval y) hh.1.symm (by simp[execOp,ho,hc,asBool]) (hops y (by simp[ho,Op.operands]) t hx)
  ·cases hh
 ·rename_i s x f ho
  split at hh
  ·rename_i k off fs ht hu
   split at hh
   ·rename_i fd hf
    split at hh
    ·rename_i n hn
     simp at hh;obtain ⟨b,hg,he⟩:=hops x (by simp[ho,Op.operands]) _ ht
     injection he with he;refine hval _ _ hh.1.symm (by simp[execOp,ho,he,KX hu hf hn]) ⟨b,hg,rfl⟩
    ·cases hh
   ·cases hh
  ·rename_i l fs ht hu
   split at hh
   ·rename_i fd hf
    split at hh
    ·rename_i n hn
     split at hh
     ·rename_i aa rr hcut
      simp at hh;obtain ⟨b,off,he,hr⟩:=hops x (by simp[ho,Op.operands]) _ ht
      injection he with he;refine hval _ _ hh.1.symm (by simp[execOp,ho,he,KX hu hf hn]) ⟨b,_,rfl,hr.field hcut⟩
     ·cases hh
    ·cases hh
   ·cases hh
  ·cases hh
 ·rename_i s x f ho
  split at hh
  ·rename_i l fs ht hu
   split at hh
   ·rename_i fd hf
    cases hp:Hr P fd.type l fd.offset h with
    | none=>simp[hp] at hh
    | some q =>
     obtain ⟨c,os',r'⟩:=q;simp[hp] at hh;obtain ⟨vs,e,hs⟩:=hops x (by simp[ho,Op.operands]) _ ht
     obtain ⟨b,n,ha,hn,h1,hl,hsem⟩:=FQ (cs:=vs.toArray) (m:=vs.length) hp (by rw[hh.2.2.1];exact hob) (by simpa using hs)
     exact hval (.cv c) _ hh.1.symm (by simp only[execOp,ho,e,Sem.run_bind,UN hu hf w (WD ha hn h1 hl w),Result.andThen_ok,Sem.run_pure]) hsem
   ·cases hh
  ·cases hh
 ·rename_i t x ho
  split at hh
  ·rename_i k off ht
   split at hh
   ·rename_i e hb
    cases hp:Hr P t e.its off h with
    | none=>simp[hp] at hh
    | some q =>
     obtain ⟨c,os',r'⟩:=q;simp[hp] at hh;obtain ⟨b,hg,he⟩:=hops x (by simp[ho,Op.operands]) _ ht
     injection he with he;obtain ⟨cs,m,h1,h2,h3,h4,h5,h6,h7,h8⟩:=(hbx k (by rw[←hh.2.1];simp) e hb).at hg
     obtain ⟨bb,n,ha,hn,k1,hl,hsem⟩:=FQ hp (by rw[hh.2.2.1];exact hob) h2
     exact hval (.cv c) _ hh.1.symm (by simp only[execOp,ho,he,Instr.loadAt,Instr.sureAddr,Sem.run_bind,Sem.run_pure,Result.andThen_ok,G9 ha hn k1 w cs e.T h1 hl]) hsem
   ·cases hh
  ·rename_i l ht
   cases hp:Hr P t (l.map It.b) 0 h with
   | none=>simp[hp] at hh
   | some q =>
    obtain ⟨c,os',r'⟩:=q;simp[hp] at hh;obtain ⟨b,off,he,hr⟩:=hops x (by simp[ho,Op.operands]) _ ht
    injection he with he;obtain ⟨v,hv1,hv2⟩:=hr.part (g:=g) hp (by rw[hh.2.2.1];exact hob)
    exact hval (.cv c) v hh.1.symm (by simp only[execOp,ho,he,Instr.loadAt,Instr.sureAddr,Sem.run_bind,Sem.run_pure,Result.andThen_ok,hv1]) hv2
  ·exact hk hh hob rfl
 ·rename_i t x y ho
  split at hh
  ·rename_i k off c ht hy
   split at hh
   ·rename_i e n hb hn
    split at hh
    ·rename_i hc
     simp only[Bool.and_eq_true] at hc;have hwd:Cb c.cells=n:=Nat.eq_of_beq_eq_true hc.1;cases hup:Zh e.its off c.cells h with
     | none=>simp[hup] at hh
     | some q =>
      obtain ⟨m,os',r'⟩:=q;simp[hup] at hh;obtain ⟨b,hg,he⟩:=hops x (by simp[ho,Op.operands]) _ ht
      injection he with he;obtain ⟨us,hu1,hu2⟩:=CT.cells_sem (hops y (by simp[ho,Op.operands]) _ hy) hc.2
      rw[←hh.1] at hK;obtain ⟨w',hw1,hw2⟩:=Abr (P:=P) (hbx k (by rw[←hh.2.1];simp) e hb) hg (Zg hup (by rw[hh.2.2.1];exact hob)) hu2 (D9 hu2 hc.2) hK hn ((Fu hu2).trans hwd) hu1
      unfold Oper.wp;simp only[execOp,ho,he,Instr.storeAt,Instr.sureAddr,Sem.run_bind,Sem.run_pure,Result.andThen_ok,hw1];exact hw2
    ·cases hh
   ·cases hh
  ·cases hh
 ·rename_i fn first caps ho
  split at hh
  ·rename_i f l hfirst hl
   simp only[Option.some.injEq,Prod.mk.injEq] at hh;have hcs:=NK (g:=g) (ρ:=a.eval) (fun x hx t ht=>hops x (by rw[ho];simp only[Op.operands];simp;right;simpa using hx) t ht) hl
   have h1:first = #[]:=by rw[←Array.toArray_toList (xs:=first),hfirst]
   refine hval _ (.func (.func f) #[] (caps.map a.eval)) hh.1.symm ?_ ⟨_,hcs,?_⟩
   ·simp[execOp,ho,Instr.makeFunc,h1]
   ·have e:(caps.toList.map a.eval).toArray=caps.map a.eval:=Array.ext' (by simp)
    rw[e]
  ·cases hh
 ·rename_i t ho
  split at hh
  ·rename_i l hz
   split at hh
   ·rename_i hok
    simp only[Option.some.injEq,Prod.mk.injEq] at hh;obtain ⟨v,hv1,hv2⟩:=N3 hz w;rw[←hh.1] at hK;rw[hv2,NR,List.all_eq_true] at hok;have:=Xv hT.low hT.hbase hT.fresh (by rw[hv2];exact Ft _) hok hK
    unfold Oper.wp;simp only[execOp,ho,Instr.alloc,Sem.run_bind,hv1,Result.andThen_ok,Mc,Sem.run_pure]
    simpa [Oper.upon] using this
   ·cases hh
  ·cases hh
 ·rename_i t x ho
  split at hh
  ·rename_i c ht
   split at hh
   ·rename_i hok
    simp only[Option.some.injEq,Prod.mk.injEq] at hh;obtain ⟨us,hu1,hu2⟩:=CT.cells_sem (hops x (by simp[ho,Op.operands]) _ ht) hok
    rw[←hh.1] at hK;have:=Xv hT.low hT.hbase hT.fresh hu2 (D9 hu2 hok) hK;unfold Oper.wp;simp only[execOp,ho,Instr.box,Sem.run_bind,Result.andThen_ok,Mc,Sem.run_pure,hu1];exact this
   ·cases hh
  ·cases hh
 ·rename_i t ps ho
  split at hh
  ·rename_i fs z l hu hz hl
   split at hh
   ·rename_i hall
    cases hfi:Gm (fun i=>(fs[i]?).map fun f=>(f.offset,(Cd P f.type).getD 0)) z l with
    | none=>rw[hfi] at hh;cases hh
    | some m =>
     rw[hfi] at hh;simp at hh;obtain ⟨v0,hv0,hzl⟩:=N3 hz w;have hps:=K9 (N:=N) (w:=w) (g:=g) (ρ:=a.eval) (fun x hx t ht=>hops x.2 (by simp[ho,Op.operands];exact ⟨x.1,by simpa using hx⟩) t ht) hl
     obtain ⟨cs',r1,r2⟩:=MF l z m _ v0.cells hfi (by rw[hzl];exact Ft _) hps
     refine hval (.cv (.ag m)) (.agg cs') hh.1.symm ?_ ⟨cs'.toList,by simp,r2⟩
     simp only[execOp,ho,Sem.run_bind];rw[UP hu hall w hv0 (by simpa using r1)]
     simp
   ·cases hh
  ·cases hh
 ·rename_i t len ps ho
  split at hh
  ·exact hk hh hob rfl
  ·split at hh
   ·rename_i e size bytes z l he hl
    split at hh
    ·rename_i hle
     cases hfi:Gm (fun i=>some (i*size,size)) (rep len (DV z)) l with
     | none=>rw[hfi] at hh;cases hh
     | some m =>
      rw[hfi] at hh;simp at hh;obtain ⟨i,zv,q1,q2,q3,q4,q5,q6,q7,q8,q9⟩:=JR he;subst q4 q6;have hps:=K9 (N:=N) (w:=w) (g:=g) (ρ:=a.eval) (fun x hx t ht=>hops x.2 (by simp[ho,Op.operands];exact ⟨x.1,by simpa using hx⟩) t ht) hl
      have hmade:(madeCells zv.cells (len*i.size)).toList=(List.replicate len zv.cells.toList).flatten:=by rw[←q7];exact CR _ (by omega) len
      obtain ⟨cs',r1,r2,r3,r4⟩:=ME l _ m _ (madeCells zv.cells (len*i.size)) hfi (by rw[hmade];exact J0 len) hps (by rw[hmade];exact Pj q9 len)
      have hle':=Nat.le_of_ble_eq_true hle;have hrun:=Gw (P:=P) (w:=w) (ps:=ps.map fun x=>(x.1,a.eval x.2)) q1 q2 q3 q7 hle' (by simpa using r1)
      rw[←hh.1] at hK;have hlen:cs'.toList.length=len*i.size:=by rw[Array.length_toList,r4,size_madeCells]
      have hlm:len≤maxLen:=by
       have:len*1≤len*i.size:=Nat.mul_le_mul_left _ q8;simp only[maxLen];omega
      have:=QA hT.low hT.hbase hT.fresh r2 r3 hlen hlm hK;refine GN (v := .slice (some ⟨w.heap.size,0,none⟩) len len) ?_ this;simp only[execOp,ho,Sem.run_bind];rw[hrun];simp
    ·cases hh
   ·cases hh
 ·rename_i t x y ho
  split at hh
  ·rename_i e size bytes z k1 z1 k2 z2 x1 n x2 x3 x4 x5 r' he hx hy
   simp only[Option.some.injEq,Prod.mk.injEq] at hh;obtain ⟨e1,e2,e3,e4⟩:=hh;have o1:=hob (.mk z1 n bytes) (by rw[←e3];simp)
   have o2:=hob (.mk z2 n bytes) (by rw[←e3];simp)
   obtain ⟨i,zv,q1,q2,q3,q4,q5,q6,q7,q8,q9⟩:=JR he;subst q4 q5 q6;have v1:[a.eval x]=[.int k1 z1]:=hops x (by simp[ho,Op.operands]) _ hx
   have v2:[a.eval y]=[.int k2 z2]:=hops y (by simp[ho,Op.operands]) _ hy
   injection v1 with v1;injection v2 with v2;rw[o1.1] at v1;rw[o2.1] at v2;have hm:=o1.2.2;have hr:=run_make (P:=P) w t e i zv q1 q2 q3 k1 k2 n n (by omega) (Int.le_refl _) (AbQ o1.2.1) (by have:=Vr hm;omega)
   simp only[Int.toNat_natCast] at hr;have hmade:(madeCells zv.cells (n*i.size)).toList=(List.replicate n zv.cells.toList).flatten:=by rw[←q7];exact CR _ (by omega) n
   rw[←e1] at hK;have:=QA (cs:=(madeCells zv.cells (n*i.size)).toList) hT.low hT.hbase hT.fresh (by rw[hmade];exact J0 n) (by rw[hmade];exact Pj q9 n) (by rw[Array.length_toList,size_madeCells]) hm hK
   refine GN (v := .slice (some ⟨w.heap.size,0,none⟩) n n) ?_ this;simp only[execOp,ho,v1,v2,Sem.run_bind,hr,Result.andThen_ok,Sem.run_pure,Array.toArray_toList]
  ·cases hh
 ·rename_i t x y ho
  split at hh
  ·rename_i k ht
   split at hh
   ·rename_i kd z e x1 i x2 r' hy hb
    split at hh
    ·rename_i s n el hs hu
     split at hh
     ·rename_i hc
      obtain ⟨hc1,hc2⟩:=Ac4 hc;simp only[Option.some.injEq,Prod.mk.injEq] at hh;obtain ⟨e1,e2,e3,e4⟩:=hh;have o1:=hob (.ix z i n) (by rw[←e3];simp)
      have hsz:Cd P el=some s:=by
       have:=hc2;unfold isN at this;cases hs':Cd P el with
       | none=>rw[hs'] at this;cases this
       | some s'=>rw[hs'] at this;rw[Nat.eq_of_beq_eq_true this]
      obtain ⟨A,nn,cc,hg,hv⟩:=hops x (by simp[ho,Op.operands]) _ ht
      injection hv with hv;obtain ⟨A',c',xs,g1,g2,g3,g4⟩:=(hbx k (by rw[←e2];simp) e hb).own hs
      rw[hg] at g1;injection g1 with g1;injection g1 with g1 g5 g6;subst g1 g5 g6;have v2:[a.eval y]=[.int kd z]:=hops y (by simp[ho,Op.operands]) _ hy
      injection v2 with v2;rcases g2 with ⟨_,hn0,_,_⟩ | ⟨b,cs,hA,_⟩
      ·have:=o1.2;omega
      ·subst hA
       refine hval _ (.pointer (some ⟨b,i*s,none⟩)) e1.symm ?_ ⟨b,by unfold AI;rw[hg];rfl,rfl⟩
       have h1:=o1.1;have h2:=o1.2;subst h1;have h3:(i:Int) < (nn:Int):=by omega
       simp[execOp,ho,hv,v2,Instr.indexAt,asIntOf,AL hu,C0 hsz,D3,h2]
     ·cases hh
    ·cases hh
   ·cases hh
  ·exact hk hh hob rfl
 ·rename_i c ho
  split at hh
  ·rename_i f hc
   split at hh
   ·rename_i l f' args' res r' hok hl
    split at hh
    ·rename_i hnp
     simp only[Bool.and_eq_true] at hnp;simp only[Option.some.injEq,Prod.mk.injEq] at hh;obtain ⟨h1,h2,h3,h4⟩:=hh;subst h1;have hsp:Sp P I f l res:=hob (.sp f l res) (by rw[←h3];simp)
     have hargs:=G8 (N:=N) (w:=w) (g:=g) (ρ:=a.eval) (fun x hx t ht=>hops x (by rw[ho];simp only[Op.operands,Call.operands];simp[hc];right;simpa using hx) t ht) hl
     have hcall:=hsp N w _ hT.inv hT.low (DH hnp.1 hargs);unfold Oper.wp;rw[Md ho hc rfl hok w];simp only[Oper.upon];have e:(c.args.toList.map a.eval).toArray=c.args.map a.eval:=Array.ext' (by simp)
     rw[e] at hcall;refine hcall.mono ?_;rintro e w' ⟨v,rfl,hv,hb⟩;exact hK v w' hb (TV.noPtr_sem hnp.2 hv)
    ·cases hh
   ·rename_i l f' args' rest ent r' hok hl
    split at hh
    ·rename_i hnp
     simp only[Bool.and_eq_true] at hnp;simp only[Option.some.injEq,Prod.mk.injEq] at hh;obtain ⟨h1,h2,h3,h4⟩:=hh;subst h1;have hsp:SpN P I f l rest ent:=hob (.spn f l rest ent) (by rw[←h3];simp)
     have hargs:=G8 (N:=N) (w:=w) (g:=g) (ρ:=a.eval) (fun x hx t ht=>hops x (by rw[ho];simp only[Op.operands,Call.operands];simp[hc];right;simpa using hx) t ht) hl
     have hcall:=hsp.2 N w _ hT.inv hT.low (DH hnp.1 hargs);unfold Oper.wp;rw[Md ho hc rfl hok w];simp only[Oper.upon];have e:(c.args.toList.map a.eval).toArray=c.args.map a.eval:=Array.ext' (by simp)
     rw[e] at hcall;refine hcall.mono ?_;rintro en w' ⟨v,N',A,n,cc,rfl,k1,k2,hv,hbox,hb⟩;refine hK v w' (.sl A n cc) N' k1 k2 hb ?_ (Xi hnp.2 (g':=upg g nm (.sl A n cc)) Cp hv) ((hbox.re hsp.1 (g':=upg g nm (.sl A n cc)) (k':=nm) Cp).low hT.hbase);intro b hb';have hb2:AI (JD (.sl A n cc)) 0=some b:=hb';obtain ⟨cs,m,q1,q2,q3,q4,q5,_⟩:=hbox.at hb2;exact ⟨Nat.not_lt.1 q5,(Array.getElem?_eq_some_iff.1 q1).1⟩
    ·cases hh
   ·rename_i l f' ks ins' args' outs res r' hok hl
    split at hh
    ·rename_i ins hins
     split at hh
     ·rename_i hc5
      simp only[Bool.and_eq_true] at hc5;obtain ⟨⟨⟨⟨c1,c2⟩,c3⟩,c4⟩,c5⟩:=hc5;simp only[Option.some.injEq,Prod.mk.injEq] at hh;obtain ⟨h1,h2,h3,h4⟩:=hh;subst h1 h2;have hsp:SpM P I f ins (l.map (CT.mapN (FY ks))) outs res:=(hob (.spm f ks ins (l.map (CT.mapN (FY ks))) outs res) (by rw[←h3];simp)).1
      have hnpb:NpB ins∧NpB outs:=(hob (.spm f ks ins (l.map (CT.mapN (FY ks))) outs res) (by rw[←h3];simp)).2
      have hargs:=G8 (N:=N) (w:=w) (g:=g) (ρ:=a.eval) (fun x hx t ht=>hops x (by rw[ho];simp only[Op.operands,Call.operands];simp[hc];right;simpa using hx) t ht) hl
      have hcall:=Qg hsp hnpb.1 hnpb.2 hins c1 c2 (Nat.le_of_ble_eq_true c3) c4 c5 hT.inv hT.low hT.hbase hT.bx hT.inj hT.fresh hargs hK;unfold Oper.wp;rw[Md ho hc rfl hok w];simp only[Oper.upon];have e:(c.args.toList.map a.eval).toArray=c.args.map a.eval:=Array.ext' (by simp)
      rw[e] at hcall;refine hcall.mono ?_;rintro en w' ⟨v,rfl,hk⟩;exact hk
     ·cases hh
    ·cases hh
   ·cases hh
  ·rename_i q hc
   split at hh
   ·rename_i f caps l0 f' ks ins' args' outs res r' hq hl
    split at hh
    ·rename_i ins hins
     split at hh
     ·rename_i hc5
      simp only[Bool.and_eq_true] at hc5;obtain ⟨⟨⟨⟨⟨hok,c1⟩,c2⟩,c3⟩,c4⟩,c5⟩:=hc5;simp only[Option.some.injEq,Prod.mk.injEq] at hh;obtain ⟨h1,h2,h3,h4⟩:=hh;subst h1 h2;have hsp:SpM P I f ins ((l0++Oq caps).map (CT.mapN (FY ks))) outs res:=(hob (.spm f ks ins ((l0++Oq caps).map (CT.mapN (FY ks))) outs res) (by rw[←h3];simp)).1
      have hnpb:NpB ins∧NpB outs:=(hob (.spm f ks ins ((l0++Oq caps).map (CT.mapN (FY ks))) outs res) (by rw[←h3];simp)).2
      have hargs:=G8 (N:=N) (w:=w) (g:=g) (ρ:=a.eval) (fun x hx t ht=>hops x (by rw[ho];simp only[Op.operands,Call.operands];simp[hc];right;simpa using hx) t ht) hl
      obtain ⟨cs,hcs,hv⟩:=hops (.tmp q) (by rw[ho];simp[Op.operands,Call.operands,hc]) _ hq
      injection hv with hv;have hcall:=Qg hsp hnpb.1 hnpb.2 hins c1 c2 (Nat.le_of_ble_eq_true c3) c4 c5 hT.inv hT.low hT.hbase hT.bx hT.inj hT.fresh (Lo hargs (O0 hcs)) hK;unfold Oper.wp;rw[UO ho hc hv hok w];simp only[Oper.upon];have e:(c.args.toList.map a.eval++cs).toArray=c.args.map a.eval++cs.toArray:=Array.ext' (by simp)
      rw[e] at hcall;refine hcall.mono ?_;rintro en w' ⟨v,rfl,hk⟩;exact hk
     ·cases hh
    ·cases hh
   ·cases hh
  ·rename_i hc
   split at hh
   ·rename_i x t ha hat
    split at hh
    ·rename_i k el hx hu
     split at hh
     ·rename_i e hb
      split at hh
      ·rename_i s n hs
       simp only[Option.some.injEq,Prod.mk.injEq] at hh;obtain ⟨e1,e2,e3,e4⟩:=hh;have hxm:x∈o.op.operands:=by
        rw[ho];simp only[Op.operands,Call.operands,hc];have:x∈c.args.toList:=by rw[ha];simp
        simpa using this
       obtain ⟨A,nn,cc,hg,hv⟩:=hops x hxm _ hx;injection hv with hv;obtain ⟨A',c',xs,g1,g2,g3,g4⟩:=(hbx k (by rw[←e2];simp) e hb).own hs
       rw[hg] at g1;injection g1 with g1;injection g1 with g1 g5 g6;subst g1 g5 g6;have h1:c.args = #[x]:=by rw[←Array.toArray_toList (xs:=c.args),ha]
       have h2:c.argTypes = #[t]:=by rw[←Array.toArray_toList (xs:=c.argTypes),hat]
       refine hval _ (.int .i64 (nn:Int)) e1.symm ?_ rfl;simp[execOp,ho,resolve,hc,invoke,builtin,h1,h2,hv,Builtin.len_,AL hu,goInt]
      ·cases hh
     ·cases hh
    ·exact hk hh hob rfl
   ·cases hh
  ·rename_i hc
   split at hh
   ·exact hk hh hob rfl
   rename_i hno;clear hno;split at hh
   ·rename_i s x t t' ha hat
    split at hh
    ·rename_i htt
     have htt':=Nat.eq_of_beq_eq_true htt;subst htt';have hsm:s∈o.op.operands:=by
      rw[ho];simp only[Op.operands,Call.operands,hc];have:s∈c.args.toList:=by rw[ha];simp
      simpa using this
     have hxm:x∈o.op.operands:=by
      rw[ho];simp only[Op.operands,Call.operands,hc];have:x∈c.args.toList:=by rw[ha];simp
      simpa using this
     split at hh
     ·rename_i e size bytes z he
      obtain ⟨i,zv,q1,q2,q3,q4,q5,q6,q7,q8,q9⟩:=JR he;subst q4 q5 q6;have fin_nil : ∀ {m its X c2 news},a.eval s = .slice none 0 0→a.eval x = .slice X m c2→VV w i.size X m c2 news→Bt N w g its news→(0+m)*i.bytes≤140737488355328→0+m≤maxLen→ef = .nw (.cv (.one (.sl nm))) nm ⟨e,some (i.size,m),its⟩→o.wp P a w K Q:=by
       intro m its X c2 news es ex hX hs hb hm hef;obtain ⟨A',c',w',hr,hgr,hown,hblk,hold⟩:=Gl (P:=P) (ty:=o.type) q1 q2 q3 q7 q8 q9 (A:=none) (n:=0) (c:=0) (xs:=[]) (.inl ⟨rfl,rfl,rfl,rfl⟩) hX hm hb;rw[Nat.zero_add,List.nil_append] at hown;rw[Nat.zero_add] at hr;rw[hef] at hK;have hbel:Below w.heap.size w w':=⟨hgr.os,hgr.tape,hgr.output,hgr.size,fun k hk=>hgr.block k hk (by simp)⟩
       have hw:WStep N w w':=WStep.of_below hbel;refine YV ho hc ha hat (by rw[es,ex];exact hr) (hK _ w' (.sl A' m c') N (fun _ h=>h) (fun _ h => .inl h) hbel ?_ ⟨A',m,c',Cp,rfl⟩ ?_)
       ·intro b hb'
        cases A' with
        | none=>cases hb'
        | some aa =>
         injection hb' with hb';rcases hown with h | ⟨b2,cs2,h1,h2,_⟩
         ·cases h.1
         ·injection h1 with h1
          subst h1 hb';have:=(Array.getElem?_eq_some_iff.1 h2).1;rcases hblk _ rfl with h | h
          ·exact ⟨by omega,this⟩
          ·cases h
       ·refine TC hown Cp (Cn hw (fun _ h=>h) (C7 hT.fresh) hs) ?_
        intro b hb';cases A' with
        | none=>cases hb'
        | some aa =>
         have hb':aa.block=b:=Option.some.inj hb';rcases hblk _ rfl with h | h
         ·rw[←hb',h]
          exact ⟨fun hn=>absurd (hT.low _ hn) (Nat.lt_irrefl _),fun hc=>absurd (hT.hbase _ hc) (Nat.lt_irrefl _)⟩
         ·cases h
      have fin_own : ∀ {k e1 n m its X c2 news}, B k = some e1 → k ∈ uses → e1.sl = some (i.size, n) → e1.T = e → T s = some (.cv (.one (.sl k))) → a.eval x = .slice X m c2 → VV w i.size X m c2 news → Bt N w g its news → (n + m) * i.bytes ≤ 140737488355328 → n + m ≤ maxLen → ef = .ap (.cv (.one (.sl nm))) k nm ⟨e, some (i.size, n + m), e1.its ++ its⟩ → o.wp P a w K Q := by
       intro k e1 n m its X c2 news hb hku hs1 hT1 hsl ex hX hs hbd hm hef;obtain ⟨A,nn,cc,hg,hv⟩:=hops s hsm _ hsl;injection hv with hv;obtain ⟨A0,c0,xs,g1,g2,g3,g4⟩:=(hbx k hku e1 hb).own hs1;rw[hg] at g1;injection g1 with g1;injection g1 with g1 g5 g6;subst g1 g5 g6;rw[hT1] at g2;obtain ⟨A',c',w',hr,hgr,hown,hblk,hold⟩:=Gl (P:=P) (ty:=o.type) q1 q2 q3 q7 q8 q9 g2 hX hm hbd;have hkb:AI g k=A.map (·.block):=by unfold AI;rw[hg];cases A <;> rfl
       rw[hef] at hK;have hw:WStep N w w':=Gq hgr (fun b hb=>⟨(g4 b hb).1,(g4 b hb).2.1⟩)
       refine YV ho hc ha hat (by rw[hv,ex];exact hr) (hK _ w' (.sl A' (nn+m) c') (by rw[hkb];exact hgr) (by rw[hkb];exact g4) ?_ ⟨A',_,c',Cp,rfl⟩ ?_ (fun e0 h0=>ZF h0 g2 hold hg (C7 hT.fresh) hw))
       ·intro b hb'
        cases A' with
        | none=>cases hb'
        | some aa =>
         injection hb' with hb';rcases hblk _ rfl with h | h
         ·left
          rcases hown with h0 | ⟨b2,cs2,h1,h2,_⟩
          ·cases h0.1
          ·injection h1 with h1
           subst h1 hb';exact ⟨by omega,(Array.getElem?_eq_some_iff.1 h2).1⟩
         ·right;rw[hkb,h,hb']
       ·refine TC hown Cp (BW (Cn hw (fun _ h=>h) (C7 hT.fresh) g3) (Cn hw (fun _ h=>h) (C7 hT.fresh) hs)) ?_
        intro b hb';cases A' with
        | none=>cases hb'
        | some aa =>
         have hb':aa.block=b:=Option.some.inj hb';rcases hblk _ rfl with h | h
         ·rw[←hb',h]
          exact ⟨fun hn=>absurd (hT.low _ hn) (Nat.lt_irrefl _),fun hc=>absurd (hT.hbase _ hc) (Nat.lt_irrefl _)⟩
         ·have:=g4 _ h
          rw[←hb'];exact this.2
      have srcI : ∀ {it m y},Uu i.size it m y→T x=some (.cv (.one (.b (.it it)))) → ∃ X c2 news,a.eval x = .slice X m c2∧VV w i.size X m c2 news∧Bt N w g (y.map It.b) news:=by
       intro it m y hso hx;obtain ⟨A,cc,e1,e2⟩:=hso N w [a.eval x] (hops x hxm _ hx);injection e1 with e1;rcases e2 with ⟨h1,h2,h4⟩ | ⟨aa,vs,h1,h2,h3,h4,h5⟩
       ·exact ⟨A,cc,[],e1,.inl ⟨h1,h2,rfl⟩,Di h4⟩
       ·exact ⟨A,cc,vs,e1,.inr ⟨aa,h1,h2,h4,h5⟩,Di h3⟩
      have srcB : ∀ {j e2 m},B j=some e2→j∈uses→e2.sl=some (i.size,m)→T x=some (.cv (.one (.sl j))) → ∃ X c2 news,a.eval x = .slice X m c2∧VV w i.size X m c2 news∧Bt N w g e2.its news:=by
       intro j e2 m hb hju hs2 hx;obtain ⟨A,nn,cc,hg,hv⟩:=hops x hxm _ hx;injection hv with hv;obtain ⟨A0,c0,xs,g1,g2,g3,g4⟩:=(hbx j hju e2 hb).own hs2;rw[hg] at g1;injection g1 with g1;injection g1 with g1 g5 g6;subst g1 g5 g6;exact ⟨A,cc,xs,hv,g2.src,g3⟩
      split at hh
      ·rename_i hsn
       have es:[a.eval s]=[.slice none 0 0]:=hops s hsm _ hsn;injection es with es;split at hh
       ·rename_i j hx
        split at hh
        ·rename_i e2 y1 y2 y3 r' hb
         split at hh
         ·rename_i s2 m hs2
          split at hh
          ·rename_i hse
           have hse':=Nat.eq_of_beq_eq_true hse;subst hse';simp only[Option.some.injEq,Prod.mk.injEq] at hh;obtain ⟨f1,f2,f3,f4⟩:=hh;have o1:=hob (.ap 0 m i.bytes) (by rw[←f3];simp)
           obtain ⟨X,c2,news,k1,k2,k3⟩:=srcB hb (by rw[←f2];simp) hs2 hx
           exact fin_nil es k1 k2 k3 o1.1 o1.2 f1.symm
          ·cases hh
         ·cases hh
        ·cases hh
       ·rename_i it hx
        split at hh
        ·rename_i y1 y2 m y y3 y4 y5 r'
         simp only[Option.some.injEq,Prod.mk.injEq] at hh;obtain ⟨f1,f2,f3,f4⟩:=hh;have o1:=hob (.src i.size it m y) (by rw[←f3];simp)
         have o2:=hob (.ap 0 m i.bytes) (by rw[←f3];simp)
         obtain ⟨X,c2,news,k1,k2,k3⟩:=srcI o1 hx;exact fin_nil es k1 k2 k3 o2.1 o2.2 f1.symm
        ·cases hh
       ·cases hh
      ·rename_i k hsl
       split at hh
       ·rename_i e1 hb1
        split at hh
        ·rename_i s1 n hs1
         split at hh
         ·rename_i hse
          simp only[Bool.and_eq_true] at hse;have hse1:=Nat.eq_of_beq_eq_true hse.1;have hse2:=Nat.eq_of_beq_eq_true hse.2;subst hse1;split at hh
          ·rename_i j hx
           split at hh
           ·rename_i e2 y1 y2 y3 r' hb
            split at hh
            ·rename_i s2 m hs2
             split at hh
             ·rename_i hjk
              simp only[Bool.and_eq_true] at hjk;have hse':=Nat.eq_of_beq_eq_true hjk.1;subst hse';simp only[Option.some.injEq,Prod.mk.injEq] at hh;obtain ⟨f1,f2,f3,f4⟩:=hh;have o1:=hob (.ap n m i.bytes) (by rw[←f3];simp)
              obtain ⟨X,c2,news,k1,k2,k3⟩:=srcB hb (by rw[←f2];simp) hs2 hx
              exact fin_own hb1 (by rw[←f2];simp) hs1 hse2.symm hsl k1 k2 k3 o1.1 o1.2 f1.symm
             ·cases hh
            ·cases hh
           ·cases hh
          ·rename_i it hx
           split at hh
           ·rename_i y1 y2 m y y3 y4 y5 r'
            simp only[Option.some.injEq,Prod.mk.injEq] at hh;obtain ⟨f1,f2,f3,f4⟩:=hh;have o1:=hob (.src i.size it m y) (by rw[←f3];simp)
            have o2:=hob (.ap n m i.bytes) (by rw[←f3];simp)
            obtain ⟨X,c2,news,k1,k2,k3⟩:=srcI o1 hx;exact fin_own hb1 (by rw[←f2];simp) hs1 hse2.symm hsl k1 k2 k3 o2.1 o2.2 f1.symm
           ·cases hh
          ·cases hh
         ·cases hh
        ·cases hh
       ·cases hh
      ·cases hh
     ·cases hh
    ·cases hh
   ·cases hh
  ·exact hk hh hob rfl
 ·exact hk hh hob rfl
end
structure Grd where
 w:World
 K:Nat→Prop
 rig:Nat→Option GV
 le : ∀ b,K b→b < w.heap.size
 lo : ∀ k v,rig k=some v→k < 2∨k=3
def Nz (N0:Nat→Prop)(w0:Grd)(w:World)(b:Nat):Prop:=N0 b∨(¬ w0.K b∧b < w.heap.size)
structure Sat (I:WInv) (N0:Nat→Prop) (w0:Grd) (nt:Nat) (N:Nat→Prop) (g:Gh) (E:Nat→Option TV) (B:Nat→Option Ent) (a:Act) (w:World):Prop where
 slots : ∀ t v,E t=some v→v.sem N w g (a.tmps.getD t undef)
 boxes : ∀ k e,B k=some e→BoxSem N w g w0.K k e
 inj : ∀ k j e e' b,B k=some e→B j=some e'→AI g k=some b→AI g j=some b→k=j
 low : ∀ b,N b→b < w.heap.size
 sub : ∀ b,N b→Nz N0 w0 w b
 sup : ∀ b,N0 b→N b
 below:KBelow w0.K w0.w w
 tmps:a.tmps.size=nt
 defers:a.defers=[]
 inv:I.T N w
 rig : ∀ k v,w0.rig k=some v→g k=some v
def Eff.ty:Eff→TV
 | .val t=>t
 | .st _ _=>BF undef
 | .nw t _ _=>t
 | .ap t _ _ _=>t
 | .cm t _ _ _=>t
def K8 (k:Nat):List Nat→Bool
 | []=>false
 | x::r=>Nat.beq x k||K8 k r
def wrE (dst:Option Tmp)(ef:Eff)(t:Nat):Option (Option TV) :=
 match dst with
 | some d=>if d=t then some (some ef.ty) else none
 | none=>none
def wrB (ef:Eff)(k:Nat):Option (Option Ent) :=
 match ef with
 | .val _=>none
 | .st j e=>if j=k then some (some e) else none
 | .nw _ j e=>if j=k then some (some e) else none
 | .ap _ j j' e=>if j'=k then some (some e) else if j=k then some none else none
 | .cm _ nm ks outs=>if K8 k (nm::ks) then some (AB outs k) else none
def upd {α:Type}(f:Nat→Option α)(F:Nat→α)(k:Nat):α:=(f k).getD (F k)
theorem DR {k:Nat} : ∀ {l:List Nat},K8 k l=true↔k∈l
 | []=>by simp[K8]
 | x::r=>by
  simp only[K8,Bool.or_eq_true,DR (l:=r),List.mem_cons,Nat.beq_eq];exact ⟨fun h=>h.imp Eq.symm id,fun h=>h.imp Eq.symm id⟩
def Eff.ok (ef:Eff)(nm:Nat)(uses:List Nat)(B:Nat→Option Ent):Bool :=
 match ef with
 | .val _=>true
 | .st k _=>K8 k uses&&(B k).isSome
 | .nw _ k _=>Nat.beq k nm
 | .ap _ k k' _=>Nat.beq k' nm&&K8 k uses&&(B k).isSome
 | .cm _ k ks _=>Nat.beq k nm&&ks.all fun j=>K8 j uses&&(B j).isSome
section
variable {P:Program}{I:WInv}{N0 N:Nat→Prop}{w0:Grd}{w:World}{nt:Nat}{g:Gh}{E:Nat→Option TV}{B:Nat→Option Ent}{a:Act}
theorem Sat.weak {E':Nat→Option TV}{B':Nat→Option Ent}(h:Sat I N0 w0 nt N g E B a w)(hE : ∀ t v,E' t=some v→E t=some v)(hB : ∀ k e,B' k=some e→B k=some e):Sat I N0 w0 nt N g E' B' a w :=
 { h with slots:=fun t v hv=>h.slots t v (hE t v hv),boxes:=fun k e he=>h.boxes k e (hB k e he),inj:=fun k j e e' b h1 h2=>h.inj k j e e' b (hB k e h1) (hB j e' h2) }
theorem BoxSem.lt {base:Nat→Prop}{k b:Nat}{e:Ent}(h:BoxSem N w g base k e)(hb:AI g k=some b):b < w.heap.size:=by
 obtain ⟨cs,m,h1,_⟩:=h.at hb;exact (Array.getElem?_eq_some_iff.1 h1).1
theorem BoxSem.notN {base:Nat→Prop}{k b:Nat}{e:Ent}(h:BoxSem N w g base k e)(hb:AI g k=some b) : ¬ N b:=by
 obtain ⟨cs,m,_,_,_,h4,_⟩:=h.at hb;exact h4
theorem BoxSem.keep {base:Nat→Prop}{k:Nat}{e:Ent}{N':Nat→Prop}{w':World}{g':Gh}(h:BoxSem N w g base k e)(hw:WStep N w w')(hN : ∀ b,N b→N' b)(hn : ∀ b,AI g k=some b → ¬ N' b)(hb : ∀ b,AI g k=some b→w'.heap[b]? = w.heap[b]?)(hg:GExt g g'):BoxSem N' w' g' base k e:=by
 obtain ⟨gv,h1,h2⟩:=h;have hblk : ∀ b,gv.blk=some b→AI g k=some b:=fun b hb=>by unfold AI;rw[h1];exact hb
 refine ⟨gv,hg k gv h1,?_⟩;rcases h2 with ⟨s,n,r1,r2,r3,r4⟩ | ⟨b,cs,l,r1,r2,r3,r4,r5,r6,r7⟩
 ·exact .inl ⟨s,n,r1,r2,r3,Cn hw hN hg r4⟩
 ·exact .inr ⟨b,cs,l,r1,by rw[hb b (hblk b r1)];exact r2,Cn hw hN hg r3,r4,hn b (hblk b r1),r6,r7⟩
theorem Z8 {a:Act}{dst:Option Tmp}{v:Value}{t:Nat}(h : ∀ d,dst=some d→d≠t):(a.put dst v).tmps.getD t undef=a.tmps.getD t undef:=by
 cases dst with
 | none=>rfl
 | some d=>simp[Act.put,Array.getD_eq_getD_getElem?,Array.getElem?_setIfInBounds_ne (h d rfl)]
theorem AbF {a:Act}{d:Tmp}{v:Value}(h:d < a.tmps.size):(a.put (some d) v).tmps.getD d undef=v:=by
 simp[Act.put,Array.getD_eq_getD_getElem?,h]
theorem Fy {a:Act}{dst:Option Tmp}{v:Value}:(a.put dst v).tmps.size=a.tmps.size:=by cases dst <;> simp[Act.put]
theorem DA {a:Act}{dst:Option Tmp}{v:Value}:(a.put dst v).defers=a.defers:=by cases dst <;> rfl
theorem Sat.slots_put (h:Sat I N0 w0 nt N g E B a w){N':Nat→Prop}{w':World}{g':Gh}(hw:WStep N w w')(hN : ∀ b,N b→N' b)(hg:GExt g g'){dst:Option Tmp}(hd : ∀ d,dst=some d→d < nt){v:Value}{ef:Eff}(hv:ef.ty.sem N' w' g' v) :
  ∀ t u,upd (wrE dst ef) E t=some u→u.sem N' w' g' ((a.put dst v).tmps.getD t undef):=by
 intro t u hu;unfold upd wrE at hu;cases dst with
 | none=>exact TV.step (h.slots t u hu) hw hN hg
 | some d =>
  by_cases hdt:d=t
  ·subst hdt
   simp at hu;rw[AbF (by rw[h.tmps];exact hd d rfl),←hu]
   exact hv
  ·simp[hdt] at hu
   rw[Z8 (fun d' hd'=>by injection hd' with hd';rw[←hd'];exact hdt)]
   exact TV.step (h.slots t u hu) hw hN hg
theorem F0 {w':World}(h : ∀ b,N b→Nz N0 w0 w b)(h1:w.heap.size≤w'.heap.size)(h0:w0.w.heap.size≤w.heap.size){b:Nat}(hb:Nx N w w' b):Nz N0 w0 w' b:=by
 rcases hb with hb | hb
 ·rcases h b hb with h2 | h2
  ·exact .inl h2
  ·exact .inr ⟨h2.1,by omega⟩
 ·exact .inr ⟨fun hk=>by have:=w0.le b hk;omega,hb.2⟩
theorem ND:(BF undef).sem N w g undef:=(rfl:[undef]=[undef])
theorem Le {w':World}{row:Option Nat}(h:KBelow w0.K w0.w w)(hg:w.grownBy w' row)(hr : ∀ b,row=some b → ¬ w0.K b):KBelow w0.K w0.w w':=h.grown hg (fun b hb=>Nat.lt_of_lt_of_le (w0.le b hb) h.size) hr
def Abj:Eff→Nat→Prop
 | .val _,_=>True
 | .nw _ _ _,_=>True
 | .ap _ k0 _ _,k=>k=k0
 | _,_=>False
def AaY:Eff→Bool
 | .val _=>true
 | _=>false
theorem UM {o : Oper} {T : Operand → Option TV} {Bc : Nat → Option Ent} {nm : Nat} {h os r : List Ob} {ef : Eff} {uses : List Nat} (hh : XZ P o T Bc nm h = some (ef, uses, os, r)) (hob : Owed P I os) (hok : ef.ok nm uses Bc = true)
  (hs:Sat I N0 w0 nt N g E B a w) (hT : ∀ x∈o.op.operands,∀ t,T x=some t→opT E x=some t) (hBx : ∀ k∈uses,∀ e,Bc k=some e→BoxSem N w g w0.K k e) (hij : ∀ k∈uses,∀ j∈uses,∀ e e' b,Bc k=some e→Bc j=some e'→AI g k=some b→AI g j=some b→k=j) (hB':AaY ef=false → ∀ k∈uses,∀ e,Bc k=some e→B k=some e) (hf:g nm=none) (hnB:B nm=none) (hd : ∀ d,o.dst=some d→d < nt)
  {K:Act→World→Prop} {Q:Exit→Act→World→Prop} (hK : ∀ N' g' a' w',Sat I N0 w0 nt N' g' (upd (wrE o.dst ef) E) (upd (wrB ef) B) a' w'→(∀ k,k≠nm→g' k=g k)→(∀ k e,Abj ef k→BoxSem N w g w0.K k e→BoxSem N' w' g' w0.K k e)→K a' w'):o.wp P a w K Q:=by
 have hhyp:OpHyp P I o T Bc nm uses w0.K N g a w:=by
  refine ⟨fun x hx t ht => ?_,hBx,hij,hf,hs.low,hs.inv,fun b hb=>Nat.lt_of_lt_of_le (w0.le b hb) hs.below.size⟩
  have:=hT x hx t ht;cases x with
  | tmp d=>exact hs.slots d t this
  | const v=>exact GF this
  | global q=>cases this
  | func f=>simp only[opT,Option.some.injEq] at this;subst this;exact (rfl:[_]=[_])
 refine SH hh hob hhyp ?_;cases ef with
 | val t =>
  intro v w' hb hv;have hw:WStep N w w':=WStep.of_below hb;have hN : ∀ b,N b→Nx N w w' b:=fun b hb => .inl hb
  refine hK (Nx N w w') g _ w' ⟨hs.slots_put hw hN (GExt.refl _) hd (ef := .val t) hv,?_,hs.inj,?_,?_,?_,?_,by rw[Fy];exact hs.tmps,by rw[DA];exact hs.defers,I.step hw hN hs.inv,hs.rig⟩ (fun _ _=>rfl) (fun j e' _ h=>h.keep hw hN (fun b hb' hn=>hn.elim (h.notN hb') fun hn=>by have:=h.lt hb';omega) (fun b hb'=>hb.block b (h.lt hb')) (GExt.refl _))
  ·intro k e he
   refine (hs.boxes k e he).keep hw hN ?_ (fun b hb'=>hb.block b ((hs.boxes k e he).lt hb')) (GExt.refl _)
   intro b hb' hn;rcases hn with hn | hn
   ·exact (hs.boxes k e he).notN hb' hn
   ·have:=(hs.boxes k e he).lt hb';omega
  ·intro b hb'
   rcases hb' with h1 | h1
   ·exact Nat.lt_of_lt_of_le (hs.low b h1) hb.size
   ·exact h1.2
  ·intro b hb';exact F0 hs.sub hb.size hs.below.size hb'
  ·intro b hb';exact .inl (hs.sup b hb')
  ·exact hs.below.trans (KBelow.of_below (K:=w0.K) hb fun b hb=>Nat.lt_of_lt_of_le (w0.le b hb) hs.below.size) (fun _ h=>h)
 | st k e =>
  have hB:=hB' rfl;intro w' b hb hg hq hn hbase hbx;have hw:WStep N w w':=Gq hg (fun b' hb'=>by injection hb' with hb';subst hb';exact ⟨hq,hn⟩)
  simp only[Eff.ok,Bool.and_eq_true] at hok;obtain ⟨hk1,hk2⟩:=hok;obtain ⟨e0,he0⟩:=Option.isSome_iff_exists.1 hk2;have hBk:=hB k (DR.1 hk1) e0 he0;have hname : ∀ j e',upd (wrB (.st k e)) B j=some e' → ∃ e'',B j=some e'':=by
   intro j e' hj;unfold upd wrB at hj;by_cases hkj:k=j
   ·exact ⟨e0,hkj▸hBk⟩
   ·simp[hkj] at hj;exact ⟨e',hj⟩
  refine hK N g _ w' ⟨hs.slots_put hw (fun _ h=>h) (GExt.refl _) hd (ef := .st k e) ND,?_,?_,?_,?_,hs.sup,?_,by rw[Fy];exact hs.tmps,by rw[DA];exact hs.defers,I.step hw (fun _ h=>h) hs.inv,hs.rig⟩ (fun _ _=>rfl) (fun _ _ h=>h.elim)
  ·intro j e' hj
   unfold upd wrB at hj;by_cases hkj:k=j
   ·subst hkj;simp at hj;rw[←hj];exact hbx
   ·simp[hkj] at hj
    refine (hs.boxes j e' hj).keep hw (fun _ h=>h) (fun b' hb'=>(hs.boxes j e' hj).notN hb') ?_ (GExt.refl _)
    intro b' hb';refine hg.block b' ((hs.boxes j e' hj).lt hb') ?_;intro hbb;injection hbb with hbb;subst hbb;exact hkj (hs.inj k j e0 e' b' hBk hj hb hb')
  ·intro i j e1 e2 b' h1 h2 h3 h4
   obtain ⟨f1,q1⟩:=hname i e1 h1;obtain ⟨f2,q2⟩:=hname j e2 h2;exact hs.inj i j f1 f2 b' q1 q2 h3 h4
  ·exact fun b' hb'=>Nat.lt_of_lt_of_le (hs.low b' hb') hg.size
  ·exact fun b' hb'=>F0 hs.sub hg.size hs.below.size (.inl hb')
  ·exact Le hs.below hg (fun b' hb'=>by injection hb' with hb';subst hb';exact hbase)
 | nw t k e =>
  have hk:k=nm:=Nat.eq_of_beq_eq_true hok;subst hk;intro v w' gv N' hN hNx hb hfr hv hbx;have hw:WStep N w w':=WStep.of_below hb;refine hK N' (upg g k gv) _ w' ⟨hs.slots_put hw hN (C7 hf) hd (ef := .nw t k e) hv,?_,?_,?_,?_,fun b h=>hN b (hs.sup b h),?_,by rw[Fy];exact hs.tmps,by rw[DA];exact hs.defers,I.step hw hN hs.inv,fun k' v hv=>C7 hf k' v (hs.rig k' v hv)⟩ (fun j hj=>CC hj) (fun j e' _ h=>h.keep hw hN (fun b' hb' hn=>(hNx b' hn).elim (h.notN hb') fun hn=>by have:=h.lt hb';omega) (fun b' hb'=>hb.block b' (h.lt hb')) (C7 hf))
  ·intro j e' hj
   unfold upd wrB at hj;by_cases hkj:k=j
   ·subst hkj;simp at hj;rw[←hj];exact hbx
   ·simp[hkj] at hj
    exact (hs.boxes j e' hj).keep hw hN (fun b' hb' hn=>by
     rcases hNx b' hn with hn | hn
     ·exact (hs.boxes j e' hj).notN hb' hn
     ·have:=(hs.boxes j e' hj).lt hb';omega) (fun b' hb'=>hb.block b' ((hs.boxes j e' hj).lt hb')) (C7 hf)
  ·have old : ∀ j e' b',j≠k→upd (wrB (.nw t k e)) B j=some e'→AI (upg g k gv) j=some b'→B j=some e'∧AI g j=some b'∧b' < w.heap.size:=by
    intro j e' b' hj h1 h2;unfold upd wrB at h1;simp[Ne.symm hj] at h1;have h3:AI g j=some b':=by unfold AI at h2 ⊢;rw[CC hj] at h2;exact h2
    exact ⟨h1,h3,(hs.boxes j e' h1).lt h3⟩
   intro i j e1 e2 b' h1 h2 h3 h4;by_cases hi:i=k
   ·by_cases hj:j=k
    ·rw[hi,hj]
    ·obtain ⟨_,_,q⟩:=old j e2 b' hj h2 h4
     subst hi;rw[DZ] at h3;have:=(hfr b' h3).1;omega
   ·obtain ⟨q1,q2,q3⟩:=old i e1 b' hi h1 h3
    by_cases hj:j=k
    ·subst hj
     rw[DZ] at h4;have:=(hfr b' h4).1;omega
    ·obtain ⟨p1,p2,p3⟩:=old j e2 b' hj h2 h4
     exact hs.inj i j e1 e2 b' q1 p1 q2 p2
  ·intro b' hb'
   rcases hNx b' hb' with h1 | h1
   ·exact Nat.lt_of_lt_of_le (hs.low b' h1) hb.size
   ·exact h1.2
  ·exact fun b' hb'=>F0 hs.sub hb.size hs.below.size (hNx b' hb')
  ·exact hs.below.trans (KBelow.of_below (K:=w0.K) hb fun b hb=>Nat.lt_of_lt_of_le (w0.le b hb) hs.below.size) (fun _ h=>h)
 | ap t k k' e =>
  have hB:=hB' rfl;simp only[Eff.ok,Bool.and_eq_true] at hok;obtain ⟨⟨hk0,hk1⟩,hk2⟩:=hok;have hk':k'=nm:=Nat.eq_of_beq_eq_true hk0;subst hk';obtain ⟨e0,he0⟩:=Option.isSome_iff_exists.1 hk2;have hBk:=hB k (DR.1 hk1) e0 he0;have hkk:k≠k':=by intro hc;rw[hc,hnB] at hBk;cases hBk
  intro v w' gv hg hq hfr hv hbx hold;have hw:WStep N w w':=Gq hg (fun b' hb'=>⟨(hq b' hb').1,(hq b' hb').2.1⟩)
  have old : ∀ j e',j≠k'→upd (wrB (.ap t k k' e)) B j=some e'→j≠k∧B j=some e':=by
   intro j e' hj h1;unfold upd wrB at h1;by_cases hjk:k=j
   ·subst hjk;simp[Ne.symm hj] at h1
   ·simp[Ne.symm hj,hjk] at h1;exact ⟨Ne.symm hjk,h1⟩
  refine hK N (upg g k' gv) _ w' ⟨hs.slots_put hw (fun _ h=>h) (C7 hf) hd (ef := .ap t k k' e) hv,?_,?_,?_,?_,hs.sup,?_,by rw[Fy];exact hs.tmps,by rw[DA];exact hs.defers,I.step hw (fun _ h=>h) hs.inv,fun k' v hv=>C7 hf k' v (hs.rig k' v hv)⟩ (fun j hj=>CC hj) (fun j e' (hj:j=k) h=>by subst hj;exact hold e' h)
  ·intro j e' hj
   by_cases hkj:k'=j
   ·subst hkj
    unfold upd wrB at hj;simp at hj;rw[←hj];exact hbx
   ·obtain ⟨q1,q2⟩:=old j e' (Ne.symm hkj) hj
    refine (hs.boxes j e' q2).keep hw (fun _ h=>h) (fun b' hb'=>(hs.boxes j e' q2).notN hb') ?_ (C7 hf)
    intro b' hb';refine hg.block b' ((hs.boxes j e' q2).lt hb') ?_;intro hbb;exact q1 (hs.inj j k e' e0 b' q2 hBk hb' hbb.symm)
  ·have oldb : ∀ j b',j≠k'→AI (upg g k' gv) j=some b'→AI g j=some b':=by
    intro j b' hj h2;unfold AI at h2 ⊢;rw[CC hj] at h2;exact h2
   have newold : ∀ j e' b',j≠k'→upd (wrB (.ap t k k' e)) B j=some e'→AI (upg g k' gv) j=some b'→gv.blk=some b'→False:=by
    intro j e' b' hj h1 h2 h3;obtain ⟨q1,q2⟩:=old j e' hj h1;have q3:=oldb j b' hj h2;rcases hfr b' h3 with h | h
    ·have:=(hs.boxes j e' q2).lt q3;omega
    ·exact q1 (hs.inj j k e' e0 b' q2 hBk q3 h)
   intro i j e1 e2 b' h1 h2 h3 h4;by_cases hi:i=k'
   ·by_cases hj:j=k'
    ·rw[hi,hj]
    ·subst hi
     rw[DZ] at h3;exact (newold j e2 b' hj h2 h4 h3).elim
   ·by_cases hj:j=k'
    ·subst hj
     rw[DZ] at h4;exact (newold i e1 b' hi h1 h3 h4).elim
    ·exact hs.inj i j e1 e2 b' (old i e1 hi h1).2 (old j e2 hj h2).2 (oldb i b' hi h3) (oldb j b' hj h4)
  ·exact fun b' hb'=>Nat.lt_of_lt_of_le (hs.low b' hb') hg.size
  ·exact fun b' hb'=>F0 hs.sub hg.size hs.below.size (.inl hb')
  ·exact Le hs.below hg (fun b' hb'=>(hq b' hb').2.2)
 | cm t k ks outs =>
  have hB:=hB' rfl;simp only[Eff.ok,Bool.and_eq_true,List.all_eq_true] at hok;obtain ⟨hk0,hks⟩:=hok;have hk':k=nm:=Nat.eq_of_beq_eq_true hk0;subst hk';intro v w' N' g' hN hNx hg hw hkb hbx hinj hblk hnames hv;have hext:GExt g g':=by
   intro j b hj;rw[hg j (fun h=>by rw[h,hf] at hj;cases hj)]
   exact hj
  have hin : ∀ j,j∈ks → ∃ e,B j=some e:=by
   intro j hj;have:=hks j hj;obtain ⟨e,he⟩:=Option.isSome_iff_exists.1 this.2;exact ⟨e,hB j (DR.1 this.1) e he⟩
  have cases2 : ∀ j e',upd (wrB (.cm t k ks outs)) B j=some e'→(AB outs j=some e')∨(j≠k∧j∉ks∧B j=some e'):=by
   intro j e' hj;unfold upd wrB at hj;by_cases hm:K8 j (k::ks)=true
   ·simp only[hm,if_true,Option.getD_some] at hj;exact .inl hj
   ·simp only[hm] at hj
    have hm' : ¬ j∈k::ks:=fun h=>hm (DR.2 h)
    simp only[List.mem_cons,not_or] at hm';exact .inr ⟨hm'.1,hm'.2,hj⟩
  have oldb : ∀ j e',j≠k→j∉ks→B j=some e' → ∀ b,AI g' j=some b→AI g j=some b∧b < w.heap.size ∧ ∀ i∈ks,AI g i≠some b:=by
   intro j e' h1 h2 h3 b hb;have hb':AI g j=some b:=by unfold AI at hb ⊢;rw[←hg j h1];exact hb
   refine ⟨hb',(hs.boxes j e' h3).lt hb',fun i hi hib => ?_⟩
   obtain ⟨e,he⟩:=hin i hi;exact h2 (hs.inj j i e' e b h3 he hb' hib▸hi)
  refine hK N' g' _ w' ⟨hs.slots_put hw hN hext hd (ef := .cm t k ks outs) hv,?_,?_,?_,?_,fun b h=>hN b (hs.sup b h),?_,by rw[Fy];exact hs.tmps,by rw[DA];exact hs.defers,I.step hw hN hs.inv,fun k' v hv=>hext k' v (hs.rig k' v hv)⟩ hg (fun _ _ h=>h.elim)
  ·intro j e' hj
   rcases cases2 j e' hj with h | ⟨h1,h2,h3⟩
   ·exact hbx j e' h
   ·refine (hs.boxes j e' h3).keep hw hN ?_ ?_ hext
    ·intro b hb hn
     have hlt:=(hs.boxes j e' h3).lt hb;rcases hNx b hn with h | ⟨h,_⟩ | ⟨_,i,hi,hib⟩
     ·exact (hs.boxes j e' h3).notN hb h
     ·omega
     ·obtain ⟨e,he⟩:=hin i hi
      exact h2 (hs.inj j i e' e b h3 he hb hib▸hi)
    ·intro b hb
     refine hkb.block b ⟨(hs.boxes j e' h3).lt hb,fun i hi hib => ?_⟩
     obtain ⟨e,he⟩:=hin i hi;exact h2 (hs.inj j i e' e b h3 he hb hib▸hi)
  ·intro i j e1 e2 b h1 h2 h3 h4
   rcases cases2 i e1 h1 with h5 | ⟨q1,q2,q3⟩ <;> rcases cases2 j e2 h2 with h6 | ⟨r1,r2,r3⟩
   ·exact hinj i j e1 e2 b h5 h6 h3 h4
   ·obtain ⟨u1,u2,u3⟩:=oldb j e2 r1 r2 r3 b h4
    rcases hblk i e1 b h5 h3 with h | ⟨x,hx,hxb⟩
    ·omega
    ·exact (u3 x hx hxb).elim
   ·obtain ⟨u1,u2,u3⟩:=oldb i e1 q1 q2 q3 b h3
    rcases hblk j e2 b h6 h4 with h | ⟨x,hx,hxb⟩
    ·omega
    ·exact (u3 x hx hxb).elim
   ·exact hs.inj i j e1 e2 b q3 r3 (oldb i e1 q1 q2 q3 b h3).1 (oldb j e2 r1 r2 r3 b h4).1
  ·intro b hb
   rcases hNx b hb with h | h | ⟨_,i,hi,hib⟩
   ·exact Nat.lt_of_lt_of_le (hs.low b h) hkb.size
   ·exact h.2
   ·obtain ⟨e,he⟩:=hin i hi
    exact Nat.lt_of_lt_of_le ((hs.boxes i e he).lt hib) hkb.size
  ·intro b hb
   rcases hNx b hb with h | h | ⟨hnb,i,hi,hib⟩
   ·exact F0 hs.sub hkb.size hs.below.size (.inl h)
   ·exact F0 hs.sub hkb.size hs.below.size (.inr h)
   ·obtain ⟨e,he⟩:=hin i hi
    exact .inr ⟨hnb,Nat.lt_of_lt_of_le ((hs.boxes i e he).lt hib) hkb.size⟩
  ·refine hs.below.trans hkb fun b hb=>⟨Nat.lt_of_lt_of_le (w0.le b hb) hs.below.size,fun i hi hib => ?_⟩
   obtain ⟨e,he⟩:=hin i hi;obtain ⟨_,_,_,_,_,_,h6,_⟩:=(hs.boxes i e he).at hib;exact h6 hb
end
def BA {α:Type}:List (Nat→Option α)→(Nat→Bool)→(Nat→α)→Nat→α
 | [],_,F=>F
 | f::W,S,F=>BA W (fun i=>S (i+1)) (if S 0 then upd f F else F)
theorem CJ {α:Type}{k:Nat} : ∀ {W:List (Nat→Option α)} {S1 S2:Nat→Bool} {F1 F2:Nat→α},(∀ i f,W[i]? = some f→(f k).isSome→S1 i=S2 i)→F1 k=F2 k→BA W S1 F1 k=BA W S2 F2 k
 | [],_,_,_,_,_,h=>h
 | f::W,S1,S2,F1,F2,h,h0=>by
  simp only[BA];refine CJ (fun i f' hf hs=>h (i+1) f' (by simpa using hf) hs) ?_
  by_cases hf:(f k).isSome
  ·have:=h 0 f (by simp) hf
   rw[this];cases S2 0
   ·simpa using h0
   ·obtain ⟨v,hv⟩:=Option.isSome_iff_exists.1 hf
    simp[upd,hv]
  ·have hn:f k=none:=by simpa using hf
   cases S1 0 <;> cases S2 0 <;> simp[upd,hn,h0]
theorem Jg {α:Type}{k i:Nat}{v:α} : ∀ {W:List (Nat→Option α)} {S:Nat→Bool} {F:Nat→α} {i:Nat} {f:Nat→Option α},W[i]? = some f→f k=some v→S i=true→(∀ j f',i < j→W[j]? = some f'→(f' k).isSome→S j=false)→BA W S F k=v
 | [],_,_,i,f,h,_,_,_=>by simp at h
 | f::W,S,F,0,f0,h,hv,hS,hl=>by
  simp at h;subst h;simp only[BA];have:BA W (fun i=>S (i+1)) (if S 0=true then upd f F else F) k=BA W (fun _=>false) (if S 0=true then upd f F else F) k :=
   CJ (fun i f' hf hs=>hl (i+1) f' (by omega) (by simpa using hf) hs) rfl
  rw[this];have none' : ∀ (W:List (Nat→Option α)) (F:Nat→α),BA W (fun _=>false) F k=F k:=by
   intro W;induction W with
   | nil=>intro F;rfl
   | cons f W ih=>intro F;simp only[BA];rw[ih];rfl
  rw[none',hS];simp[upd,hv]
 | f::W,S,F,i+1,f0,h,hv,hS,hl=>by
  simp only[BA];exact Jg (i:=i) (f:=f0) (by simpa using h) hv hS (fun j f' hj hf hs=>hl (j+1) f' (by omega) (by simpa using hf) hs)
structure OpR where
 ef:Eff
 uses:List Nat
 looks:List Nat
 dst:Option Nat
def M7 (ops:List Oper)(E:Nat→Option TV)(o:Oper):Option Bool :=
 match o.guard with
 | none=>some true
 | some (j,want) =>
  match ops[j]? with
  | none=>none
  | some q=>match q.dst with
   | none=>none
   | some d=>match E d with
    | some (.cv (.one (.b (.lit (.bool true)))))=>some want
    | some (.cv (.one (.b (.lit (.bool false)))))=>some (!want)
    | some (.cv (.one (.b (.lit (.tuple _)))))=>some false
    | _=>none
def Eb:List Operand→List Nat
 | []=>[]
 | .tmp t::r=>t::Eb r
 | _::r=>Eb r
def M2 (ops:List Oper)(o:Oper):List Nat :=
 match o.guard with
 | none=>Eb o.op.operands.toList
 | some (j,_)=>match ops[j]? with
  | some q=>match q.dst with
   | some d=>d::Eb o.op.operands.toList
   | none=>Eb o.op.operands.toList
  | none=>Eb o.op.operands.toList
def Abd (nt:Nat):Option Nat→Bool
 | none=>true
 | some d=>Nat.blt d nt
def stE (dst:Option Nat)(ef:Eff)(E:Env):Env :=
 match dst with
 | none=>E
 | some d=>(d,ef.ty)::E
def stB (ef:Eff)(B:Bxs):Bxs :=
 match ef with
 | .val _=>B
 | .st k e=>(k,some e)::B
 | .nw _ k e=>(k,some e)::B
 | .ap _ k k' e=>(k',some e)::(k,none)::B
 | .cm _ k ks outs=>(k,AB outs k)::((ks.map fun j=>(j,AB outs j))++B)
theorem Jz {dst:Option Nat}{ef:Eff}{E:Env}:look (stE dst ef E)=upd (wrE dst ef) (look E):=by
 funext t
 cases dst with
 | none=>rfl
 | some d =>
  simp only[stE,look,upd,wrE];by_cases h:d=t
  ·subst h;simp
  ·have:Nat.beq d t=false:=by cases hb:Nat.beq d t with
    | false=>rfl
    | true=>exact absurd (Nat.eq_of_beq_eq_true hb) h
   simp[this,h]
theorem Qf {ef:Eff}{B:Bxs}:AB (stB ef B)=upd (wrB ef) (AB B):=by
 have hne : ∀ {d t:Nat},d≠t→Nat.beq d t=false:=by
  intro d t h;cases hb:Nat.beq d t with
  | false=>rfl
  | true=>exact absurd (Nat.eq_of_beq_eq_true hb) h
 funext t
 cases ef with
 | val v=>rfl
 | st k e =>
  simp only[stB,AB,upd,wrB];by_cases h:k=t
  ·subst h;simp
  ·simp[hne h,h]
 | nw v k e =>
  simp only[stB,AB,upd,wrB];by_cases h:k=t
  ·subst h;simp
  ·simp[hne h,h]
 | ap v k k' e =>
  simp only[stB,AB,upd,wrB];by_cases h:k'=t
  ·subst h;simp
  ·by_cases h2:k=t
   ·subst h2;simp[hne h,h]
   ·simp[hne h,h,hne h2,h2]
 | cm v k ks outs =>
  have key : ∀ l:List Nat,AB ((l.map fun j=>(j,AB outs j))++B) t=if K8 t l then AB outs t else AB B t:=by
   intro l;induction l with
   | nil=>rfl
   | cons x l ih =>
    simp only[List.map_cons,List.cons_append,AB,K8];by_cases h:x=t
    ·subst h;simp
    ·simp only[hne h,Bool.false_or];simpa using ih
  have:=key (k::ks);simp only[stB];simp only[List.map_cons,List.cons_append] at this;rw[this];simp only[upd,wrB];split <;> simp
def Gy (P : Program) (nt : Nat) (all : List Oper) : List Oper → Nat → Env → Bxs → List Ob → Option (List OpR × Env × Bxs × List Ob × List Ob)
 | [],_,E,B,h=>some ([],E,B,[],h)
 | o :: rest, nm, E, B, h =>
  if Abd nt o.dst then
   match M7 all (look E) o with
   | some true =>
    match XZ P o (opT (look E)) (AB B) nm h with
    | some (ef,uses,os,h') =>
     if ef.ok nm uses (AB B) then
      match Gy P nt all rest (nm+1) (stE o.dst ef E) (stB ef B) h' with
      | some (rs,E',B',os',h'')=>some (⟨ef,uses,M2 all o,o.dst⟩::rs,E',B',os++os',h'')
      | none=>none
     else none
    | none=>none
   | some false =>
    match Gy P nt all rest (nm+1) (stE o.dst (.val (BF undef)) E) B h with
    | some (rs,E',B',os',h'')=>some (⟨.val (BF undef),[],M2 all o,o.dst⟩::rs,E',B',os',h'')
    | none=>none
   | none=>none
  else none
def WE (rs:List OpR):List (Nat→Option (Option TV)):=rs.map fun r=>wrE r.dst r.ef
def WB (rs:List OpR):List (Nat→Option (Option Ent)):=rs.map fun r=>wrB r.ef
structure OpFact (P:Program) (I:WInv) (nt:Nat) (all:List Oper) (o:Oper) (r:OpR) (nm:Nat) (E:Nat→Option TV) (B:Nat→Option Ent):Prop where
 dst:r.dst=o.dst
 looks:r.looks=M2 all o
 dlt : ∀ d,o.dst=some d→d < nt
 act:(M7 all E o=some true ∧ ∃ h1 os h2,XZ P o (opT E) B nm h1=some (r.ef,r.uses,os,h2)∧Owed P I os∧r.ef.ok nm r.uses B=true)∨(M7 all E o=some false∧r.ef = .val (BF undef)∧r.uses=[])
theorem Rl {nt:Nat}{dst:Option Nat}(h:Abd nt dst=true) : ∀ d,dst=some d→d < nt:=by
 intro d hd;subst hd;exact Nat.le_of_ble_eq_true h
section
variable {P:Program}{I:WInv}{nt:Nat}
theorem EW {all : List Oper} : ∀ {rest : List Oper} {nm : Nat} {E : Env} {B : Bxs} {h : List Ob} {rs : List OpR} {E' : Env} {B' : Bxs} {os h' : List Ob}, Gy P nt all rest nm E B h = some (rs, E', B', os, h') → Owed P I os →
  rs.length=rest.length∧look E'=BA (WE rs) (fun _=>true) (look E)∧AB B'=BA (WB rs) (fun _=>true) (AB B) ∧
   ∀ i o,rest[i]? = some o → ∃ r,rs[i]? = some r∧OpFact P I nt all o r (nm+i) (BA (WE rs) (fun j=>decide (j < i)) (look E)) (BA (WB rs) (fun j=>decide (j < i)) (AB B))
 | [],nm,E,B,h,rs,E',B',os,h',hr,ho=>by
  simp only[Gy,Option.some.injEq,Prod.mk.injEq] at hr;obtain ⟨rfl,rfl,rfl,rfl,rfl⟩:=hr;exact ⟨rfl,rfl,rfl,fun i o hi=>by simp at hi⟩
 | o :: rest, nm, E, B, h, rs, E', B', os, h', hr, ho => by
  have nothing : ∀ {α:Type} (W:List (Nat→Option α)) (F:Nat→α),BA W (fun j=>decide (j < 0)) F=F:=by
   intro α W;induction W with
   | nil=>intro F;rfl
   | cons f W ih =>
    intro F;simp only[BA];have e:(fun i=>decide (i+1 < 0))=(fun i=>decide (i < 0)):=by funext i;simp
    rw[e,ih]
    rfl
  have shift : ∀ {α:Type} (f:Nat→Option α) (W:List (Nat→Option α)) (F:Nat→α) (i:Nat),BA (f::W) (fun j=>decide (j < i+1)) F=BA W (fun j=>decide (j < i)) (upd f F):=by
   intro α f W F i;simp only[BA];have e:(fun j=>decide (j+1 < i+1))=(fun j=>decide (j < i)):=by funext j;simp
   rw[e]
   rfl
  simp only[Gy] at hr;split at hr
  ·rename_i hdst
   split at hr
   ·rename_i hg
    split at hr
    ·rename_i ef uses os1 h1 he
     split at hr
     ·rename_i hok
      split at hr
      ·rename_i rs1 E1 B1 os2 h2 hrec
       simp only[Option.some.injEq,Prod.mk.injEq] at hr;obtain ⟨rfl,rfl,rfl,rfl,rfl⟩:=hr;obtain ⟨ho1,ho2⟩:=ho.app;obtain ⟨l1,l2,l3,l4⟩:=EW hrec ho2;refine ⟨by simp[l1],?_,?_,?_⟩
       ·rw[l2,Jz];rfl
       ·rw[l3,Qf];rfl
       ·intro i q hq
        cases i with
        | zero =>
         simp at hq;subst hq;refine ⟨_,by simp;rfl,rfl,rfl,Rl hdst,.inl ?_⟩
         rw[nothing,nothing];exact ⟨hg,h,os1,h1,he,ho1,hok⟩
        | succ i =>
         simp at hq;obtain ⟨r,hr1,hr2⟩:=l4 i q hq;refine ⟨r,by simpa using hr1,?_⟩
         have e1:nm+(i+1)=nm+1+i:=by omega
         rw[e1];simp only[WE,WB,List.map_cons] at hr2 ⊢;rw[shift,shift];rw[Jz,Qf] at hr2;exact hr2
      ·cases hr
     ·cases hr
    ·cases hr
   ·rename_i hg
    split at hr
    ·rename_i rs1 E1 B1 os2 h2 hrec
     simp only[Option.some.injEq,Prod.mk.injEq] at hr;obtain ⟨rfl,rfl,rfl,rfl,rfl⟩:=hr;obtain ⟨l1,l2,l3,l4⟩:=EW hrec ho;have eB:upd (wrB (.val (BF undef))) (AB B)=AB B:=by funext k;rfl
     refine ⟨by simp[l1],?_,?_,?_⟩
     ·rw[l2,Jz];rfl
     ·rw[l3];simp only[WB,List.map_cons,BA,if_true,eB]
     ·intro i q hq
      cases i with
      | zero =>
       simp at hq;subst hq;refine ⟨_,by simp;rfl,rfl,rfl,Rl hdst,.inr ?_⟩
       rw[nothing];exact ⟨hg,rfl,rfl⟩
      | succ i =>
       simp at hq;obtain ⟨r,hr1,hr2⟩:=l4 i q hq;refine ⟨r,by simpa using hr1,?_⟩
       have e1:nm+(i+1)=nm+1+i:=by omega
       rw[e1];simp only[WE,WB,List.map_cons] at hr2 ⊢;rw[shift,shift,eB];rw[Jz] at hr2;exact hr2
    ·cases hr
   ·cases hr
  ·cases hr
theorem Xt {ops : Array Oper} {N0 N : Nat → Prop} {w0 : Grd} {w : World} {g : Gh} {E Ec : Nat → Option TV} {B Bc : Nat → Option Ent} {a : Act} {i : Nat} {o : Oper} {r : OpR} {nm : Nat} (ho : ops[i]? = some o) (hf : OpFact P I nt ops.toList o r nm Ec Bc)
  (hs:Sat I N0 w0 nt N g E B a w) (hE : ∀ t∈r.looks,E t=Ec t) (hBx : ∀ k∈r.uses,∀ e,Bc k=some e→BoxSem N w g w0.K k e) (hij : ∀ k∈r.uses,∀ j∈r.uses,∀ e e' b,Bc k=some e→Bc j=some e'→AI g k=some b→AI g j=some b→k=j) (hB:AaY r.ef=false → ∀ k∈r.uses,∀ e,Bc k=some e→B k=some e) (hg:g nm=none) (hnB:B nm=none) {K:Act→World→Prop} {Q:Exit→Act→World→Prop}
  (hK : ∀ N' g' a' w',Sat I N0 w0 nt N' g' (upd (wrE r.dst r.ef) E) (upd (wrB r.ef) B) a' w'→(∀ k,k≠nm→g' k=g k)→(∀ k e,Abj r.ef k→BoxSem N w g w0.K k e→BoxSem N' w' g' w0.K k e)→K a' w'):wpOp P ops Q i K a w:=by
 have slots_mem : ∀ (l:List Operand) (t:Nat),Operand.tmp t∈l→t∈Eb l:=by
  intro l t;induction l with
  | nil=>intro h;cases h
  | cons x l ih =>
   intro h;rcases List.mem_cons.1 h with h | h
   ·subst h;simp[Eb]
   ·have:=ih h
    cases x <;> simp[Eb,this]
 have hlook : ∀ t,Operand.tmp t∈o.op.operands→t∈r.looks:=by
  intro t ht;rw[hf.looks];have:=slots_mem o.op.operands.toList t (by simpa using ht)
  unfold M2;split
  ·exact this
  ·split
   ·split
    ·exact List.mem_cons_of_mem _ this
    ·exact this
   ·exact this
 have hwant : ∀ b, M7 ops.toList Ec o = some b → Region.wanted o (yielded ops a.tmps) = b := by
  intro b hb;unfold M7 at hb;unfold Region.wanted;split at hb
  ·rename_i hg
   injection hb with hb;rw[hg,←hb]
  ·rename_i j want hg
   rw[hg];simp only;split at hb
   ·cases hb
   ·rename_i q hq
    split at hb
    ·cases hb
    ·rename_i d hd
     have hq':ops[j]? = some q:=by simpa using hq
     have hdl:d∈r.looks:=by
      rw[hf.looks];unfold M2;rw[hg];simp only[hq,hd];simp
     have hEd:=hE d hdl;have hdlt : ∀ v,Ec d=some v→v.sem N w g (a.tmps.getD d undef):=fun v hv=>hs.slots d v (by rw[hEd];exact hv)
     have hy : ∀ v,a.tmps.getD d undef=v→v≠undef→a.tmps[d]? = some v:=by
      intro v hv hne;cases hc:a.tmps[d]? with
      | none=>rw[Array.getD_eq_getD_getElem?,hc] at hv;exact absurd hv.symm hne
      | some u=>rw[Array.getD_eq_getD_getElem?,hc] at hv;rw[←hv];rfl
     split at hb
     ·rename_i hv
      have h1:[a.tmps.getD d undef]=[.bool true]:=hdlt _ hv;injection h1 with h1;injection hb with hb;have h2:=hy _ h1 (by simp[undef])
      simp only[yielded,hq',Option.bind_some,hd,h2];subst hb;cases want <;> rfl
     ·rename_i hv
      have h1:[a.tmps.getD d undef]=[.bool false]:=hdlt _ hv;injection h1 with h1;injection hb with hb;have h2:=hy _ h1 (by simp[undef])
      simp only[yielded,hq',Option.bind_some,hd,h2];subst hb;cases want <;> rfl
     ·rename_i l hv
      have h1:[a.tmps.getD d undef]=[.tuple l]:=hdlt _ hv;injection h1 with h1;injection hb with hb;subst hb;simp only[yielded,hq',Option.bind_some,hd];cases hc:a.tmps[d]? with
      | none=>rfl
      | some u =>
       rw[Array.getD_eq_getD_getElem?,hc] at h1;have h1:u = .tuple l:=h1;subst h1
       rfl
     ·cases hb
 unfold wpOp;rw[ho];simp only;rcases hf.act with ⟨hg1,h1,os,h2,he,how,hok⟩ | ⟨hg1,he,hu⟩
 ·rw[hwant true hg1,if_pos rfl]
  left;refine UM he how hok hs ?_ hBx hij hB hg hnB hf.dlt ?_
  ·intro x hx t ht
   cases x with
   | tmp d=>simp only[opT] at ht ⊢;rw[hE d (hlook d hx)];exact ht
   | const v=>exact ht
   | global q=>exact ht
   | func f=>exact ht
  ·rw[←hf.dst];exact hK
 ·rw[hwant false hg1,if_neg (by simp)]
  have:=hK N g (a.put o.dst undef) w ⟨?_,?_,?_,hs.low,hs.sub,hs.sup,hs.below,by rw[Fy];exact hs.tmps,by rw[DA];exact hs.defers,hs.inv,hs.rig⟩ (fun _ _=>rfl) (fun _ _ _ h=>h)
  ·exact this
  ·rw[hf.dst];exact hs.slots_put (WStep.refl _ _) (fun _ h=>h) (GExt.refl _) hf.dlt (ef:=r.ef) (by rw[he];exact ND)
  ·intro k e hk
   rw[he] at hk;exact hs.boxes k e hk
  ·intro k j e e' b h1 h2
   rw[he] at h1 h2;exact hs.inj k j e e' b h1 h2
theorem TE {ops:Array Oper}{N0 N:Nat→Prop}{w0:Grd}{w:World}{g:Gh}{E Ec:Nat→Option TV}{B Bc:Nat→Option Ent}{a:Act}{i:Nat}{o:Oper}{r:OpR}{nm:Nat}(ho:ops[i]? = some o)(hf:OpFact P I nt ops.toList o r nm Ec Bc)
  (hs:Sat I N0 w0 nt N g E B a w) (hE : ∀ t∈r.looks,E t=Ec t) (hB : ∀ k∈r.uses,B k=Bc k) (hg:g nm=none) (hnB:B nm=none) {K:Act→World→Prop} {Q:Exit→Act→World→Prop}
  (hK : ∀ N' g' a' w',Sat I N0 w0 nt N' g' (upd (wrE r.dst r.ef) E) (upd (wrB r.ef) B) a' w'→(∀ k,k≠nm→g' k=g k)→K a' w'):wpOp P ops Q i K a w :=
 Xt ho hf hs hE (fun k hk e he=>hs.boxes k e (by rw[hB k hk];exact he)) (fun k hk j hj e e' b h1 h2=>hs.inj k j e e' b (by rw[hB k hk];exact h1) (by rw[hB j hj];exact h2)) (fun _ k hk e he=>by rw[hB k hk];exact he) hg hnB (fun N' g' a' w' h1 h2 _=>hK N' g' a' w' h1 h2)
end
def Fh:Eff→List Nat
 | .val _=>[]
 | .st k _=>[k]
 | .nw _ k _=>[k]
 | .ap _ k k' _=>[k',k]
 | .cm _ k ks _=>k::ks
def Up:List Nat→List Nat→Bool
 | [],_=>false
 | x::r,l=>K8 x l||Up r l
def AaP (d:Nat):Option Nat→Bool
 | none=>false
 | some e=>Nat.beq d e
def FE (a b:OpR):Bool :=
 (match a.dst with
 | none=>false
 | some d=>K8 d b.looks||AaP d b.dst)||Up (Fh a.ef) (b.uses++Fh b.ef)
def Hy (a b:OpR):Bool:=FE a b||FE b a
def G7 (acc:List Nat):List Edge→Nat
 | []=>0
 | e::r=>if Region.binds .any e then Nat.lor (Nat.lor (2 ^ e.on) (acc.getD e.on 0)) (G7 acc r) else G7 acc r
def TL:List Nat→List Oper→List Nat
 | acc,[]=>acc
 | acc,o::os=>TL (acc++[G7 acc o.after.toList]) os
def TR:Nat→List Oper→Bool
 | _,[]=>true
 | i,o::os=>(o.after.toList.all fun e => !Region.binds .any e||Nat.blt e.on i)&&TR (i+1) os
def Tx (b:OpR)(m:Nat):Nat→List OpR→Bool
 | _,[]=>true
 | i,a::r=>(!Hy a b||Nat.testBit m i)&&Tx b m (i+1) r
def TD:List OpR→List OpR→List Nat→Bool
 | _,[],_=>true
 | done,b::rs,m::ms=>Tx b m 0 done&&TD (done++[b]) rs ms
 | _,_::_,[]=>false
def Qt (ops:List Oper)(rs:List OpR):Bool:=TR 0 ops&&TD [] rs (TL [] ops)
theorem MY {x:Nat} : ∀ {l m:List Nat},x∈l→x∈m→Up l m=true
 | [],_,h,_=>by cases h
 | y::l,m,h,hm=>by
  simp only[Up,Bool.or_eq_true];rcases List.mem_cons.1 h with h | h
  ·subst h;exact .inl (DR.2 hm)
  ·exact .inr (MY h hm)
theorem Pe {ef:Eff}{k:Nat}(h:(wrB ef k).isSome=true):k∈Fh ef:=by
 cases ef with
 | val t=>cases h
 | st j e=>simp only[wrB] at h;split at h <;> simp_all [Fh]
 | nw t j e=>simp only[wrB] at h;split at h <;> simp_all [Fh]
 | ap t j j' e =>
  simp only[wrB] at h;split at h
  ·simp_all [Fh]
  ·split at h <;> simp_all [Fh]
 | cm t nm ks outs =>
  simp only[wrB] at h;split at h
  ·rename_i hm;exact DR.1 hm
  ·cases h
theorem SJ {dst:Option Tmp}{ef:Eff}{t:Nat}(h:(wrE dst ef t).isSome=true):dst=some t:=by
 unfold wrE at h;split at h
 ·split at h
  ·simp_all
  ·cases h
 ·cases h
theorem VI {a b:OpR}{d:Nat}(h:a.dst=some d)(hb:d∈b.looks):FE a b=true:=by
 unfold FE;rw[h];simp[DR.2 hb]
theorem Y5 {a b:OpR}{d:Nat}(h:a.dst=some d)(hb:b.dst=some d):FE a b=true:=by
 unfold FE;rw[h,hb];simp[AaP]
theorem Y3 {a b:OpR}{k:Nat}(h:k∈Fh a.ef)(hb:k∈b.uses):FE a b=true:=by
 unfold FE;rw[MY h (List.mem_append_left _ hb)];simp
theorem Y4 {a b:OpR}{k:Nat}(h:k∈Fh a.ef)(hb:k∈Fh b.ef):FE a b=true:=by
 unfold FE;rw[MY h (List.mem_append_right _ hb)];simp
def PM (ops:List Oper)(L:Nat→Prop):Prop := ∀ j o,ops[j]? = some o→L j → ∀ e∈o.after.toList,Region.binds .any e=true→L e.on
theorem Ja {acc:List Nat}{i:Nat} : ∀ {es:List Edge},(G7 acc es).testBit i=true → ∃ e∈es,Region.binds .any e=true∧(e.on=i∨(acc.getD e.on 0).testBit i=true)
 | [],h=>by simp[G7] at h
 | e::r,h=>by
  simp only[G7] at h;split at h
  ·rename_i hb
   have h:((2 ^ e.on ||| acc.getD e.on 0) ||| G7 acc r).testBit i=true:=h;rw[Nat.testBit_or,Nat.testBit_or,Bool.or_eq_true,Bool.or_eq_true] at h;rcases h with (h | h) | h
   ·rw[Nat.testBit_two_pow] at h
    exact ⟨e,by simp,hb,.inl (by simpa using h)⟩
   ·exact ⟨e,by simp,hb,.inr h⟩
   ·obtain ⟨e',h1,h2,h3⟩:=Ja h
    exact ⟨e',by simp[h1],h2,h3⟩
  ·obtain ⟨e',h1,h2,h3⟩:=Ja h
   exact ⟨e',by simp[h1],h2,h3⟩
theorem NP {L : Nat → Prop} : ∀ {os : List Oper} {acc : List Nat}, (∀ j o, os[j]? = some o → L (acc.length + j) → ∀ e ∈ o.after.toList, Region.binds .any e = true → L e.on) →
  (∀ (j m i:Nat),acc[j]? = some m→m.testBit i=true→L j→L i) → ∀ (j m i:Nat),(TL acc os)[j]? = some m→m.testBit i=true→L j→L i
 | [],acc,_,h,j,m,i,h1,h2,h3=>h j m i h1 h2 h3
 | o :: os, acc, hc, h, j, m, i, h1, h2, h3 => by
  simp only[TL] at h1;refine NP (os:=os) (acc:=acc++[G7 acc o.after.toList]) ?_ ?_ j m i h1 h2 h3
  ·intro j' o' ho' hL
   refine hc (j'+1) o' (by simpa using ho') ?_
   rw[List.length_append] at hL;simp at hL;rw[show acc.length+(j'+1)=acc.length+1+j' by omega]
   exact hL
  ·intro j' m' i' h1' h2' h3'
   rw[List.getElem?_append] at h1';split at h1'
   ·exact h j' m' i' h1' h2' h3'
   ·rename_i hlt
    have hj:j'=acc.length:=by
     rcases Nat.lt_or_ge (j' - acc.length) 1 with h0 | h0
     ·omega
     ·rw[List.getElem?_eq_none (by simpa using h0)] at h1';cases h1'
    subst hj;simp at h1';rw[←h1'] at h2';obtain ⟨e,he1,he2,he3⟩:=Ja h2';have hLe:=hc 0 o (by simp) (by simpa using h3') e he1 he2
    rcases he3 with he3 | he3
    ·rw[←he3];exact hLe
    ·cases hg:acc[e.on]? with
     | none=>rw[List.getD_eq_getElem?_getD,hg] at he3;simp at he3
     | some q =>
      rw[List.getD_eq_getElem?_getD,hg] at he3;exact h e.on q i' hg he3 hLe
theorem Mi {b:OpR}{m:Nat} : ∀ {l:List OpR} {i0 i:Nat} {a:OpR},Tx b m i0 l=true→l[i]? = some a→Hy a b=true→m.testBit (i0+i)=true
 | [],_,i,a,_,h,_=>by simp at h
 | q::l,i0,i,a,h,hi,hc=>by
  simp only[Tx,Bool.and_eq_true] at h;cases i with
  | zero =>
   simp at hi;subst hi;have:=h.1;rw[hc] at this
   simpa using this
  | succ i =>
   have:=Mi (i0:=i0+1) h.2 (by simpa using hi) hc
   rw[show i0+(i+1)=i0+1+i by omega]
   exact this
theorem Mv : ∀ {rs done:List OpR} {ms:List Nat} {i j:Nat} {a b:OpR},TD done rs ms=true→(done++rs)[i]? = some a→rs[j]? = some b→i < done.length+j→Hy a b=true → ∃ m,ms[j]? = some m∧m.testBit i=true
 | [],_,_,_,j,_,b,_,_,h,_,_=>by simp at h
 | q::rs,done,[],i,j,a,b,h,_,_,_,_=>by cases h
 | q::rs,done,m::ms,i,j,a,b,h,ha,hb,hij,hc=>by
  simp only[TD,Bool.and_eq_true] at h;cases j with
  | zero =>
   simp at hb;subst hb;rw[List.getElem?_append_left (by omega)] at ha
   refine ⟨m,by simp,?_⟩
   have:=Mi h.1 ha hc
   simpa using this
  | succ j =>
   obtain ⟨m',h1,h2⟩:=Mv (i:=i) h.2 (by rw[List.append_assoc];exact ha) (by simpa using hb) (by simp;omega) hc
   exact ⟨m',by simpa using h1,h2⟩
theorem M8 : ∀ {os:List Oper} {i0 j:Nat} {o:Oper} {e:Edge},TR i0 os=true→os[j]? = some o→e∈o.after.toList→Region.binds .any e=true→e.on < i0+j
 | [],_,j,o,_,_,h,_,_=>by simp at h
 | q::os,i0,j,o,e,h,hj,he,hb=>by
  simp only[TR,Bool.and_eq_true,List.all_eq_true] at h;cases j with
  | zero =>
   simp at hj;subst hj;have:=h.1 e he;rw[hb] at this;simp at this;exact this
  | succ j =>
   have:=M8 (i0:=i0+1) h.2 (by simpa using hj) he hb
   omega
theorem Mo {ops:List Oper}{rs:List OpR}(h:Qt ops rs=true){i j:Nat}{a b:OpR}(hij:i < j)(ha:rs[i]? = some a)(hb:rs[j]? = some b)(hc:Hy a b=true){L:Nat→Prop}(hL:PM ops L)(hj:L j):L i:=by
 simp only[Qt,Bool.and_eq_true] at h;obtain ⟨m,h1,h2⟩:=Mv (done:=[]) h.2 ha hb (by simpa using hij) hc
 exact NP (acc:=[]) (fun j o ho hLj=>by simp at hLj;exact hL j o ho hLj) (fun j m i hm=>by simp at hm) j m i h1 h2 hj
theorem Ll {p q:Nat→Bool}{i:Nat}(hp:p i=false)(hq : ∀ j,q j=(decide (j=i)||p j)) : ∀ n,(List.range n).countP q=(List.range n).countP p+if i < n then 1 else 0
 | 0=>by simp
 | n+1=>by
  rw[List.range_succ,List.countP_append,List.countP_append,Ll hp hq n];simp only[List.countP_singleton,hq n];by_cases h:n=i
  ·subst h;simp[hp]
  ·by_cases h2:i < n
   ·have:i < n+1:=by omega
    simp[h,h2,this];omega
   ·have : ¬ i < n+1:=by omega
    simp[h,h2,this]
section
variable {P:Program}{I:WInv}{nt:Nat}{N0:Nat→Prop}{w0:Grd}
def Fr (g:Gh)(nx:Nat):Prop := ∀ k,nx≤k→g k=none
theorem Sat.noBox {N:Nat→Prop}{g:Gh}{E:Nat→Option TV}{B:Nat→Option Ent}{a:Act}{w:World}(h:Sat I N0 w0 nt N g E B a w){k:Nat}(hk:g k=none):B k=none:=by
 cases hb:B k with
 | none=>rfl
 | some e=>obtain ⟨gv,h1,_⟩:=h.boxes k e hb;rw[hk] at h1;cases h1
theorem Jf {α:Type} : ∀ {W:List (Nat→Option α)} {i:Nat} {f:Nat→Option α} {F:Nat→α},W[i]? = some f→BA W (fun j=>decide (j < i+1)) F=upd f (BA W (fun j=>decide (j < i)) F)
 | [],_,_,_,h=>by simp at h
 | q::W,0,f,F,h=>by
  simp at h;subst h;have none' : ∀ (W:List (Nat→Option α)) (F:Nat→α),BA W (fun _=>false) F=F:=by
   intro W;induction W with
   | nil=>intro F;rfl
   | cons f W ih=>intro F;simp only[BA];rw[ih];rfl
  have e1:(fun i:Nat=>decide (i+1 < 0+1))=(fun _=>false):=by funext i;simp
  have e2:(fun i:Nat=>decide (i+1 < 0))=(fun _=>false):=by funext i;simp
  simp only[BA,e1,e2,none']
  rfl
 | q::W,i+1,f,F,h=>by
  have e1:(fun j:Nat=>decide (j+1 < i+1+1))=(fun j=>decide (j < i+1)):=by funext j;simp
  have e2:(fun j:Nat=>decide (j+1 < i+1))=(fun j=>decide (j < i)):=by funext j;simp
  simp only[BA,e1,e2];rw[Jf (by simpa using h)]
  simp
theorem Ga {α:Type}{W:List (Nat→Option α)}{S:Nat→Bool}{F:Nat→α}(h : ∀ i,i < W.length→S i=true):BA W S F=BA W (fun _=>true) F:=by
 funext k
 exact CJ (fun i f hf _=>h i (List.getElem?_eq_some_iff.1 hf).1) rfl
theorem Z5 {id:Nat}{ops:Array Oper}{nx:Nat}{E:Env}{B:Bxs}{h:List Ob}{rs:List OpR}{E':Env}{B':Bxs}{os h':List Ob}(hr:Gy P nt ops.toList ops.toList nx E B h=some (rs,E',B',os,h'))(ho:Owed P I os)
  {N:Nat→Prop} {g:Gh} {a:Act} {w:World} (hs:Sat I N0 w0 nt N g (look E) (AB B) a w) (hf:Fr g nx) {Q:Exit→Act→World→Prop}
  (hQ : ∀ N' g' a' w',Sat I N0 w0 nt N' g' (look E') (AB B') a' w'→Fr g' (nx+ops.size)→Q .normal a' w'):(Code.region id ops false).wp P Q a w:=by
 obtain ⟨l1,l2,l3,l4⟩:=EW hr ho;refine wp_region ?_;have key : ∀ (m i:Nat),i+m=ops.size → ∀ N g a w,Sat I N0 w0 nt N g (BA (WE rs) (fun j=>decide (j < i)) (look E)) (BA (WB rs) (fun j=>decide (j < i)) (AB B)) a w→Fr g (nx+i)→wpOps P ops Q (List.range' i m) a w:=by
  intro m;induction m with
  | zero =>
   intro i hi N g a w hs hf;simp only[List.range'_zero,wpOps];have hi':i=ops.size:=by omega
   subst hi';rw[Ga (W:=WE rs) (by intro i hi;simp only[WE,List.length_map,l1,Array.length_toList] at hi;simp[hi]),Ga (W:=WB rs) (by intro i hi;simp only[WB,List.length_map,l1,Array.length_toList] at hi;simp[hi]),←l2,←l3] at hs
   exact hQ N g a w hs hf
  | succ m ih =>
   intro i hi N g a w hs hf;have hlt:i < ops.size:=by omega
   have ho':ops[i]? = some ops[i]:=Array.getElem?_eq_getElem hlt;obtain ⟨r,hr1,hr2⟩:=l4 i ops[i] (by rw[Array.getElem?_toList];exact ho')
   rw[List.range'_succ,wpOps_cons];refine TE ho' hr2 hs (fun _ _=>rfl) (fun _ _=>rfl) (hf _ (Nat.le_refl _)) (hs.noBox (hf _ (Nat.le_refl _))) ?_
   intro N' g' a' w' hs' hg';refine ih (i+1) (by omega) N' g' a' w' ?_ ?_
   ·rw[Jf (f:=wrE r.dst r.ef) (by simp[WE,hr1]),Jf (f:=wrB r.ef) (by simp[WB,hr1])]
    exact hs'
   ·intro k hk
    rw[hg' k (by omega)]
    exact hf k (by omega)
 have e0 : ∀ {α:Type} (W:List (Nat→Option α)) (F:Nat→α),BA W (fun j=>decide (j < 0)) F=F:=by
  intro α W;induction W with
  | nil=>intro F;rfl
  | cons f W ih =>
   intro F;simp only[BA];have e:(fun i=>decide (i+1 < 0))=(fun i=>decide (i < 0)):=by funext i;simp
   rw[e,ih]
   rfl
 rw[List.range_eq_range'];refine key ops.size 0 (by omega) N g a w ?_ (by simpa using hf)
 rw[e0,e0];exact hs
theorem Z6 {id : Nat} {ops : Array Oper} {nx : Nat} {E : Env} {B : Bxs} {h : List Ob} {rs : List OpR} {E' : Env} {B' : Bxs} {os h' : List Ob} (hr : Gy P nt ops.toList ops.toList nx E B h = some (rs, E', B', os, h')) (ho : Owed P I os) (hreg : Qt ops.toList rs = true) (hm : P.follows .mixedOrders = true)
  {N:Nat→Prop} {g:Gh} {a:Act} {w:World} (hs:Sat I N0 w0 nt N g (look E) (AB B) a w) (hf:Fr g nx) {Q:Exit→Act→World→Prop}
  (hQ : ∀ N' g' a' w',Sat I N0 w0 nt N' g' (look E') (AB B') a' w'→Fr g' (nx+ops.size)→Q .normal a' w'):(Code.region id ops true).wp P Q a w:=by
 obtain ⟨l1,l2,l3,l4⟩:=EW hr ho;have hlen:rs.length=ops.size:=by rw[l1];simp
 have key : ∀ (fuel : Nat) (listed : Array Bool) (N : Nat → Prop) (g : Gh) (a : Act) (w : World), listed.size = ops.size → fuel + (List.range ops.size).countP (fun i => listed.getD i false) = ops.size → PM ops.toList (fun i => listed.getD i false = true) →
   Sat I N0 w0 nt N g (BA (WE rs) (fun i=>listed.getD i false) (look E)) (BA (WB rs) (fun i=>listed.getD i false) (AB B)) a w→Fr g (nx+ops.size)→(∀ i,i < ops.size→listed.getD i false=false→g (nx+i)=none) →
   wpAny P .any ops Q fuel listed a w:=by
  have done : ∀ (listed:Array Bool) (N:Nat→Prop) (g:Gh) (a:Act) (w:World),(∀ i,i < ops.size→listed.getD i false=true)→Sat I N0 w0 nt N g (BA (WE rs) (fun i=>listed.getD i false) (look E)) (BA (WB rs) (fun i=>listed.getD i false) (AB B)) a w→Fr g (nx+ops.size)→Q .normal a w:=by
   intro listed N g a w hall hs hf;rw[Ga (W:=WE rs) (by intro i hi;simp only[WE,List.length_map,hlen] at hi;exact hall i hi),Ga (W:=WB rs) (by intro i hi;simp only[WB,List.length_map,hlen] at hi;exact hall i hi),←l2,←l3] at hs
   exact hQ N g a w hs hf
  intro fuel;induction fuel with
  | zero =>
   intro listed N g a w hsz hcnt hcl hs hf hfi;have hall : ∀ i,i < ops.size→listed.getD i false=true:=by
    have:(List.range ops.size).countP (fun i=>listed.getD i false)=(List.range ops.size).length:=by simp at hcnt ⊢;exact hcnt
    rw[List.countP_eq_length] at this;exact fun i hi=>this i (List.mem_range.2 hi)
   refine ⟨?_,done listed N g a w hall hs hf⟩;refine List.eq_nil_iff_forall_not_mem.2 (fun j hj => ?_)
   obtain ⟨h1,o,h2,_⟩:=mem_ready.1 hj;have hj':j < ops.size:=(Array.getElem?_eq_some_iff.1 h2).1;have:=hall j hj';rw[Array.getD_eq_getD_getElem?,Array.getElem?_eq_getElem (by omega)] at this h1
   simp at this h1;rw[this] at h1;cases h1
  | succ fuel ih =>
   intro listed N g a w hsz hcnt hcl hs hf hfi;refine ⟨fun hnil => ?_,fun i hi => ?_⟩
   ·have hall : ∀ i, i < ops.size → listed.getD i false = true := by
     intro i;induction i using Nat.strongRecOn with
     | _ i ihi =>
      intro hi;cases hc:listed.getD i false with
      | true=>rfl
      | false =>
       exfalso;have hmem:i∈Region.ready .any ops listed:=by
        refine mem_ready.2 ⟨?_,ops[i],Array.getElem?_eq_getElem hi,fun e he hb => ?_⟩
        ·rw[Array.getD_eq_getD_getElem?,Array.getElem?_eq_getElem (by omega)] at hc ⊢
         simpa using hc
        ·simp only[Qt,Bool.and_eq_true] at hreg
         have hlt:=M8 (j:=i) (o:=ops[i]) hreg.1 (by rw[Array.getElem?_toList];exact Array.getElem?_eq_getElem hi) (by simpa using he) hb
         exact ihi e.on (by omega) (by omega)
       rw[hnil] at hmem;cases hmem
    exact done listed N g a w hall hs hf
   ·obtain ⟨h1, o, h2, h3⟩ := mem_ready.1 hi
    have hi':i < ops.size:=(Array.getElem?_eq_some_iff.1 h2).1;have hif:listed.getD i false=false:=by
     rw[Array.getD_eq_getD_getElem?,Array.getElem?_eq_getElem (by omega)] at h1 ⊢
     simpa using h1
    obtain ⟨r,hr1,hr2⟩:=l4 i o (by simpa using h2)
    -- the set with i
    have hcl':PM ops.toList (fun j=>j=i∨listed.getD j false=true):=by
     intro j q hq hj e he hb;rcases hj with hj | hj
     ·subst hj
      have:q=o:=by simp at hq;rw[h2] at hq;exact (Option.some.inj hq).symm
      subst this;exact .inr (h3 e (by simpa using he) hb)
     ·exact .inr (hcl j q hq hj e he hb)
    have before : ∀ j q,j < i→rs[j]? = some q→Hy q r=true→listed.getD j false=true:=by
     intro j q hj hq hc;rcases Mo hreg hj hq hr1 hc hcl' (.inl rfl) with h | h
     ·omega
     ·exact h
    have after : ∀ j q,i < j→rs[j]? = some q→Hy r q=true→listed.getD j false=false:=by
     intro j q hj hq hc;cases hl:listed.getD j false with
     | false=>rfl
     | true =>
      have:=Mo hreg hj hr1 hq hc hcl hl;rw[hif] at this;cases this
    have cl : ∀ {x y:OpR},FE x y=true→Hy x y=true:=fun h=>by unfold Hy;rw[h];rfl
    have cr : ∀ {x y:OpR},FE y x=true→Hy x y=true:=fun h=>by unfold Hy;rw[h];simp
    have agree : ∀ j q,rs[j]? = some q→(FE q r=true∨j=i)→listed.getD j false=decide (j < i):=by
     intro j q hq hc;rcases Nat.lt_trichotomy j i with hj | hj | hj
     ·rw[before j q hj hq (cl (hc.resolve_right (by omega)))];simp[hj]
     ·subst hj;rw[hif];simp
     ·rw[after j q hj hq (cr (hc.resolve_right (by omega)))]
      have : ¬ j < i:=by omega
      simp[this]
    have getWE : ∀ {j:Nat} {f:Nat→Option (Option TV)},(WE rs)[j]? = some f → ∃ q:OpR,rs[j]? = some q∧f=wrE q.dst q.ef:=by
     intro j f hj;simp only[WE,List.getElem?_map,Option.map_eq_some_iff] at hj;obtain ⟨q,h1,h2⟩:=hj;exact ⟨q,h1,h2.symm⟩
    have getWB : ∀ {j:Nat} {f:Nat→Option (Option Ent)},(WB rs)[j]? = some f → ∃ q:OpR,rs[j]? = some q∧f=wrB q.ef:=by
     intro j f hj;simp only[WB,List.getElem?_map,Option.map_eq_some_iff] at hj;obtain ⟨q,h1,h2⟩:=hj;exact ⟨q,h1,h2.symm⟩
    refine TE h2 hr2 hs ?_ ?_ (hfi i hi' hif) (hs.noBox (hfi i hi' hif)) ?_
    ·intro t ht
     refine CJ (fun j f hj hsm => ?_) rfl
     obtain ⟨q,hq,rfl⟩:=getWE hj;by_cases hji:j=i
     ·exact agree j q hq (.inr hji)
     ·exact agree j q hq (.inl (VI (SJ hsm) ht))
    ·intro k hk
     refine CJ (fun j f hj hsm => ?_) rfl
     obtain ⟨q,hq,rfl⟩:=getWB hj;by_cases hji:j=i
     ·exact agree j q hq (.inr hji)
     ·exact agree j q hq (.inl (Y3 (Pe hsm) hk))
    ·intro N' g' a' w' hs' hg'
     have set_same:(listed.setIfInBounds i true).getD i false=true:=by
      rw[Array.getD_eq_getD_getElem?,Array.getElem?_setIfInBounds_self_of_lt (by omega)];rfl
     have set_other : ∀ j,j≠i→(listed.setIfInBounds i true).getD j false=listed.getD j false:=fun j hj=>getD_set_ne false (Ne.symm hj)
     refine ih _ N' g' a' w' (by simpa using hsz) ?_ ?_ ?_ ?_ ?_
     ·have:=Ll (p:=fun j=>listed.getD j false) (q:=fun j=>(listed.setIfInBounds i true).getD j false) (i:=i) hif (fun j=>by
       by_cases hj:j=i
       ·subst hj;rw[set_same];simp
       ·rw[set_other j hj];simp[hj]) ops.size
      rw[this,if_pos hi'];omega
     ·intro j q hq hj e he hb
      have hj':j=i∨listed.getD j false=true:=by
       by_cases hji:j=i
       ·exact .inl hji
       ·rw[set_other j hji] at hj;exact .inr hj
      rcases hcl' j q hq hj' e he hb with h | h
      ·rw[h];exact set_same
      ·by_cases hei:e.on=i
       ·rw[hei];exact set_same
       ·rw[set_other _ hei];exact h
     ·refine hs'.weak ?_ ?_
      ·intro t v hv
       rw[←hv];cases hw:wrE r.dst r.ef t with
       | none =>
        simp only[upd,hw,Option.getD_none];refine CJ (fun j f hj hsm => ?_) rfl
        obtain ⟨q,hq,rfl⟩:=getWE hj;by_cases hji:j=i
        ·subst hji
         rw[hr1] at hq;injection hq with hq;subst hq;rw[hw] at hsm;cases hsm
        ·rw[set_other j hji]
       | some u =>
        have e1:upd (wrE r.dst r.ef) (BA (WE rs) (fun i=>listed.getD i false) (look E)) t=u:=by simp[upd,hw]
        rw[e1];refine (Jg (i:=i) (f:=wrE r.dst r.ef) (by simp[WE,hr1]) hw set_same (fun j f hj hjf hsm => ?_)).symm
        obtain ⟨q,hq,rfl⟩:=getWE hjf;rw[set_other j (by omega)]
        exact after j q hj hq (cr (Y5 (SJ hsm) (SJ (by rw[hw];rfl))))
      ·intro k v hv
       rw[←hv];cases hw:wrB r.ef k with
       | none =>
        simp only[upd,hw,Option.getD_none];refine CJ (fun j f hj hsm => ?_) rfl
        obtain ⟨q,hq,rfl⟩:=getWB hj;by_cases hji:j=i
        ·subst hji
         rw[hr1] at hq;injection hq with hq;subst hq;rw[hw] at hsm;cases hsm
        ·rw[set_other j hji]
       | some u =>
        have e1:upd (wrB r.ef) (BA (WB rs) (fun i=>listed.getD i false) (AB B)) k=u:=by simp[upd,hw]
        rw[e1];refine (Jg (i:=i) (f:=wrB r.ef) (by simp[WB,hr1]) hw set_same (fun j f hj hjf hsm => ?_)).symm
        obtain ⟨q,hq,rfl⟩:=getWB hjf;rw[set_other j (by omega)]
        exact after j q hj hq (cr (Y4 (Pe hsm) (Pe (by rw[hw];rfl))))
     ·intro k hk
      rw[hg' k (by omega)]
      exact hf k hk
     ·intro j hj hjl
      by_cases hji:j=i
      ·subst hji;rw[set_same] at hjl;cases hjl
      ·rw[set_other j hji] at hjl
       rw[hg' _ (by omega)]
       exact hfi j hj hjl
 refine wp_region_any hm ?_;have hrep : ∀ j,(Array.replicate ops.size false).getD j false=false:=fun j=>by
  rw[Array.getD_eq_getD_getElem?,Array.getElem?_replicate];split <;> rfl
 have hs1:Sat I N0 w0 nt N g (look E) (AB B) a { w with drawn:=w.drawn+1 }:=by
  have hw:WStep N w { w with drawn:=w.drawn+1 }:=WStep.of_heap rfl;refine ⟨fun t v hv=>TV.step (hs.slots t v hv) hw (fun _ h=>h) (GExt.refl _),fun k e he=>(hs.boxes k e he).keep hw (fun _ h=>h) (fun b hb=>(hs.boxes k e he).notN hb) (fun b hb=>rfl) (GExt.refl _),hs.inj,hs.low,hs.sub,hs.sup,⟨hs.below.os,hs.below.tape,hs.below.output,hs.below.size,hs.below.block⟩,hs.tmps,hs.defers,I.step hw (fun _ h=>h) hs.inv,hs.rig⟩
 have e0 : ∀ {α:Type} (W:List (Nat→Option α)) (F:Nat→α),BA W (fun j=>(Array.replicate ops.size false).getD j false) F=F:=by
  intro α W F
  funext k
  have none' : ∀ (W:List (Nat→Option α)) (F:Nat→α),BA W (fun _=>false) F=F:=by
   intro W;induction W with
   | nil=>intro F;rfl
   | cons f W ih=>intro F;simp only[BA];rw[ih];rfl
  have e:(fun j=>(Array.replicate ops.size false).getD j false)=(fun _=>false):=funext hrep
  rw[e,none']
 refine key ops.size _ N g a _ (by simp) ?_ ?_ (by rw[e0,e0];exact hs1) (fun k hk=>hf k (by omega)) (fun i _ _=>hf _ (by omega))
 ·have:(List.range ops.size).countP (fun i=>(Array.replicate ops.size false).getD i false)=0:=by
   rw[List.countP_eq_zero];intro i _;rw[hrep];simp
  omega
 ·intro j q hq hj
  rw[hrep] at hj;cases hj
end
inductive TI where
 | code (c:Code)
 | blk (id:Nat)
def Fi (id:Nat):List TI→Option (List TI)
 | []=>none
 | .blk i::k=>if Nat.beq i id then some k else Fi id k
 | .code _::k=>Fi id k
def Qr (E:Env):Env→Option Env
 | []=>some []
 | (t,_)::r=>match look E t,Qr E r with
  | some v,some l=>some ((t,v)::l)
  | _,_=>none
def NH (B:Bxs):Bxs→Option Bxs
 | []=>some []
 | (k,_)::r=>match AB B k,NH B r with
  | some e,some l=>some ((k,some e)::l)
  | _,_=>none
def It.lt (nx:Nat):It→Bool
 | .ptr k _=>Nat.blt k nx
 | .sl k=>Nat.blt k nx
 | .clo _ l=>l.all fun p=>Nat.blt p.1 nx
 | _=>true
def CT.lt (nx:Nat):CT→Bool
 | .one x=>x.lt nx
 | .ag l=>l.all (It.lt nx)
def TV.lt (nx:Nat):TV→Bool
 | .cv c=>c.lt nx
 | .tu l=>l.all (CT.lt nx)
def ltE (nx:Nat):Env→Bool
 | []=>true
 | (_,v)::r=>v.lt nx&&ltE nx r
def ltB (nx:Nat):Bxs→Bool
 | []=>true
 | (k,some e)::r=>Nat.blt k nx&&e.its.all (It.lt nx)&&ltB nx r
 | (_,none)::r=>ltB nx r
def Qq (a b:St):Option St :=
 match Qr a.E b.E,NH a.B b.B with
 | some E,some B=>if Nat.ble a.nx b.nx||(Nat.ble 4 b.nx&&(ltE b.nx E&&ltB b.nx B)) then some ⟨E,B,b.nx⟩ else none
 | _,_=>none
def Ab8 (P:Program)(nt:Nat)(ops:Array Oper)(draw:Bool)(s:St)(h:List Ob):Option (Env×Bxs×List Ob×List Ob) :=
 match Gy P nt ops.toList ops.toList s.nx s.E s.B h with
 | some (rs,E,B,os,h')=>if !draw||(Qt ops.toList rs&&P.follows .mixedOrders) then some (E,B,os,h') else none
 | none=>none
def Gx (P : Program) (nt : Nat) : Nat → List TI → St → List Ob → Option (Exit × St × List Ob × List Ob)
 | 0,_,_,_=>none
 | f + 1, k, s, h =>
  match h with
  | .leads a b::h' =>
   match Qq s a with
   | some a' =>
    match Gx P nt f k b h' with
    | some (ex,s',os,r)=>some (ex,s',.leads a' b::os,r)
    | none=>none
   | none=>none
  | _ =>
   match k with
   | []=>some (.normal,s,[],h)
   | .blk _::k=>Gx P nt f k s h
   | .code c :: k =>
    match c with
    | .skip=>Gx P nt f k s h
    | .label _=>Gx P nt f k s h
    | .seq x y=>Gx P nt f (.code x :: .code y::k) s h
    | .block id x=>Gx P nt f (.code x :: .blk id::k) s h
    | .exit id=>match Fi id k with
     | some k'=>Gx P nt f k' s h
     | none=>some (.exit id,s,[],h)
    | .ret=>some (.ret,s,[],h)
    | .cond c x y =>
     match opT (look s.E) c with
     | some (.cv (.one (.b (.lit (.bool true)))))=>Gx P nt f (.code x::k) s h
     | some (.cv (.one (.b (.lit (.bool false)))))=>Gx P nt f (.code y::k) s h
     | _=>none
    | .region _ ops draw =>
     match Ab8 P nt ops draw s h with
     | some (E,B,os,h') =>
      match Gx P nt f k ⟨E,B,s.nx+ops.size⟩ h' with
      | some (ex,s',os',r)=>some (ex,s',os++os',r)
      | none=>none
     | none=>none
    | .loop c =>
     match h with
     | .loop _ a ex b::h' =>
      match Qq s a with
      | some a' =>
       match ex with
       | .exit id =>
        match Fi id k with
        | some k' =>
         match Gx P nt f k' b h' with
         | some (ex',s',os,r)=>some (ex',s',.loop c a' ex b::os,r)
         | none=>none
        | none=>some (.exit id,b,[.loop c a' ex b],h')
       | .ret=>some (.ret,b,[.loop c a' ex b],h')
       | _=>none
      | none=>none
     | _=>none
    | _=>none
def ES (I:WInv)(N0:Nat→Prop)(w0:Grd)(nt:Nat)(s:St)(a:Act)(w:World):Prop := ∃ N g,Sat I N0 w0 nt N g (look s.E) (AB s.B) a w∧Fr g s.nx
def LoopTr (P:Program)(I:WInv)(nt:Nat)(c:Code)(a:St)(ex:Exit)(b:St):Prop :=
 ∀ N0 w0 act w,ES I N0 w0 nt a act w→(Code.loop c).wp P (fun e act' w'=>e=ex∧ES I N0 w0 nt b act' w') act w
def Leads (I:WInv)(nt:Nat)(a b:St):Prop := ∀ N0 w0 act w,ES I N0 w0 nt a act w→ES I N0 w0 nt b act w
def Ob.more (P:Program)(I:WInv)(nt:Nat):Ob→Prop
 | .loop c a ex b=>LoopTr P I nt c a ex b
 | .leads a b=>Leads I nt a b
 | o=>o.prop P I
def Owed2 (P:Program)(I:WInv)(nt:Nat)(os:List Ob):Prop := ∀ o∈os,o.more P I nt
theorem Owed2.app {P:Program}{I:WInv}{nt:Nat}{a b:List Ob}(h:Owed2 P I nt (a++b)):Owed2 P I nt a∧Owed2 P I nt b:=⟨fun o ho=>h o (by simp[ho]),fun o ho=>h o (by simp[ho])⟩
theorem Owed2.cons {P:Program}{I:WInv}{nt:Nat}{a:Ob}{b:List Ob}(h:Owed2 P I nt (a::b)):a.more P I nt∧Owed2 P I nt b:=⟨h a (by simp),fun o ho=>h o (by simp[ho])⟩
theorem Owed2.plain {P:Program}{I:WInv}{nt:Nat}{a:List Ob}(h:Owed2 P I nt a):Owed P I a:=by
 intro o ho;have:=h o ho;cases o <;> first | exact this | trivial
section
variable {P:Program}{I:WInv}{nt:Nat}{N0:Nat→Prop}{w0:Grd}
theorem Sc {id:Nat}{ops:Array Oper}{draw:Bool}{s:St}{h os h':List Ob}{E:Env}{B:Bxs}(hr:Ab8 P nt ops draw s h=some (E,B,os,h'))(ho:Owed P I os){N:Nat→Prop}{g:Gh}{a:Act}{w:World}(hs1:Sat I N0 w0 nt N g (look s.E) (AB s.B) a w)(hs2:Fr g s.nx){Q:Exit→Act→World→Prop}
  (hQ : ∀ N' g' a' w',Sat I N0 w0 nt N' g' (look E) (AB B) a' w'→Fr g' (s.nx+ops.size)→Q .normal a' w'):(Code.region id ops draw).wp P Q a w:=by
 unfold Ab8 at hr;split at hr
 ·rename_i rs E1 B1 os1 h2 hro
  split at hr
  ·rename_i hd
   simp only[Option.some.injEq,Prod.mk.injEq] at hr;obtain ⟨rfl,rfl,rfl,rfl⟩:=hr;cases draw with
   | false=>exact Z5 hro ho hs1 hs2 hQ
   | true =>
    simp only[Bool.not_true,Bool.false_or,Bool.and_eq_true] at hd;exact Z6 hro ho hd.1 hd.2 hs1 hs2 hQ
  ·cases hr
 ·cases hr
theorem Ml {E:Env} : ∀ {F G:Env},Qr E F=some G → ∀ t v,look G t=some v→look E t=some v
 | [],G,h,t,v,hv=>by simp only[Qr,Option.some.injEq] at h;subst h;cases hv
 | (q,u)::F,G,h,t,v,hv=>by
  simp only[Qr] at h;split at h
  ·rename_i x l h1 h2
   injection h with h;subst h;simp only[look] at hv;split at hv
   ·rename_i hq
    injection hv with hv;rw[←Nat.eq_of_beq_eq_true hq,h1,hv]
   ·exact Ml h2 t v hv
  ·cases h
theorem E8 {B:Bxs} : ∀ {F G:Bxs},NH B F=some G → ∀ t v,AB G t=some v→AB B t=some v
 | [],G,h,t,v,hv=>by simp only[NH,Option.some.injEq] at h;subst h;cases hv
 | (q,u)::F,G,h,t,v,hv=>by
  simp only[NH] at h;split at h
  ·rename_i x l h1 h2
   injection h with h;subst h;simp only[AB] at hv;split at hv
   ·rename_i hq
    rw[←Nat.eq_of_beq_eq_true hq,h1,hv]
   ·exact E8 h2 t v hv
  ·cases h
def Jl (g:Gh)(nx:Nat):Gh:=fun k=>if k < nx then g k else none
theorem JY {g:Gh}{nx k:Nat}(h:k < nx):Jl g nx k=g k:=by unfold Jl;rw[if_pos h]
theorem FC {g:Gh}{nx k:Nat}(h:k < nx):AI (Jl g nx) k=AI g k:=by unfold AI;rw[JY h]
theorem GJ {a b:Nat}(h:Nat.blt a b=true):a < b:=Nat.le_of_ble_eq_true h
theorem It.lt_sem {N:Nat→Prop}{w:World}{g:Gh}{nx:Nat}{x:It}{l:List Value}(h:x.lt nx=true)(hs:x.sem N w g l):x.sem N w (Jl g nx) l:=by
 cases x with
 | b x=>exact hs
 | fp x=>exact hs
 | ptr k off=>obtain ⟨b,h1,h2⟩:=hs;exact ⟨b,by rw[FC (GJ h)];exact h1,h2⟩
 | sl k=>obtain ⟨A,n,c,h1,h2⟩:=hs;exact ⟨A,n,c,by rw[JY (GJ h)];exact h1,h2⟩
 | clo f p=>obtain ⟨cs,h1,h2⟩:=hs;exact ⟨cs,Ei (fun q hq b hb=>by rw[FC (GJ (List.all_eq_true.1 h q hq))];exact hb) h1,h2⟩
theorem L0 {N:Nat→Prop}{w:World}{g:Gh}{nx:Nat} : ∀ {xs:List It} {l:List Value},xs.all (It.lt nx)=true→Bt N w g xs l→Bt N w (Jl g nx) xs l
 | [],_,_,h=>h
 | x::xs,_,hn,⟨l1,l2,e,h1,h2⟩=>by
  simp only[List.all_cons,Bool.and_eq_true] at hn;exact ⟨l1,l2,e,It.lt_sem hn.1 h1,L0 hn.2 h2⟩
theorem CT.lt_sem {N:Nat→Prop}{w:World}{g:Gh}{nx:Nat}{c:CT}{v:Value}(h:c.lt nx=true)(hs:c.sem N w g v):c.sem N w (Jl g nx) v:=by
 cases c with
 | one x=>exact It.lt_sem h hs
 | ag l=>obtain ⟨vs,e,h1⟩:=hs;exact ⟨vs,e,L0 h h1⟩
theorem Ur {N:Nat→Prop}{w:World}{g:Gh}{nx:Nat} : ∀ {cs:List CT} {vs:List Value},cs.all (CT.lt nx)=true→all2 (CT.sem N w g) cs vs→all2 (CT.sem N w (Jl g nx)) cs vs
 | [],_,_,h=>h
 | c::cs,_,hn,⟨v,l,e,h1,h2⟩=>by
  simp only[List.all_cons,Bool.and_eq_true] at hn;exact ⟨v,l,e,CT.lt_sem hn.1 h1,Ur hn.2 h2⟩
theorem TV.lt_sem {N:Nat→Prop}{w:World}{g:Gh}{nx:Nat}{t:TV}{v:Value}(h:t.lt nx=true)(hs:t.sem N w g v):t.sem N w (Jl g nx) v:=by
 cases t with
 | cv c=>exact CT.lt_sem h hs
 | tu l=>obtain ⟨vs,e,h1⟩:=hs;exact ⟨vs,e,Ur h h1⟩
theorem M1 {nx:Nat} : ∀ {E:Env} {t:Nat} {v:TV},ltE nx E=true→look E t=some v→v.lt nx=true
 | [],_,_,_,h=>by cases h
 | (k,u)::r,t,v,h,hv=>by
  simp only[ltE,Bool.and_eq_true] at h;simp only[look] at hv;split at hv
  ·injection hv with hv;rw[←hv];exact h.1
  ·exact M1 h.2 hv
theorem F3 {nx:Nat} : ∀ {B:Bxs} {t:Nat} {e:Ent},ltB nx B=true→AB B t=some e→t < nx∧e.its.all (It.lt nx)=true
 | [],_,_,_,h=>by cases h
 | (k,some u)::r,t,e,h,hv=>by
  simp only[ltB,Bool.and_eq_true] at h;simp only[AB] at hv;split at hv
  ·rename_i hk
   injection hv with hv;rw[←hv,←Nat.eq_of_beq_eq_true hk];exact ⟨GJ h.1.1,h.1.2⟩
  ·exact F3 h.2 hv
 | (k,none)::r,t,e,h,hv=>by
  simp only[ltB] at h;simp only[AB] at hv;split at hv
  ·cases hv
  ·exact F3 h hv
theorem BoxSem.cut {N:Nat→Prop}{w:World}{g:Gh}{base:Nat→Prop}{nx k:Nat}{e:Ent}(h:BoxSem N w g base k e)(hk:k < nx)(he:e.its.all (It.lt nx)=true):BoxSem N w (Jl g nx) base k e:=by
 obtain ⟨gv,h1,h2⟩:=h;refine ⟨gv,by rw[JY hk];exact h1,?_⟩
 rcases h2 with ⟨s,n,r1,r2,r3,r4⟩ | ⟨b,cs,l,r1,r2,r3,r4⟩
 ·exact .inl ⟨s,n,r1,r2,r3,L0 he r4⟩
 ·exact .inr ⟨b,cs,l,r1,r2,L0 he r3,r4⟩
theorem Kt {a b c:St}(h:Qq a b=some c){act:Act}{w:World}(hs:ES I N0 w0 nt a act w):ES I N0 w0 nt c act w:=by
 unfold Qq at h;split at h
 ·rename_i E B h1 h2
  split at h
  ·rename_i hn
   injection h with h;subst h;obtain ⟨N,g,h3,h4⟩:=hs;have h5:=h3.weak (Ml h1) (E8 h2);rw[Bool.or_eq_true,Bool.and_eq_true,Bool.and_eq_true] at hn;rcases hn with hn | ⟨h2n,hE,hB⟩
   ·exact ⟨N,g,h5,fun k hk=>h4 k (Nat.le_trans (Nat.le_of_ble_eq_true hn) hk)⟩
   ·refine ⟨N,Jl g b.nx,{ h5 with slots:=fun t v hv=>TV.lt_sem (M1 hE hv) (h5.slots t v hv),boxes:=fun k e he=>(h5.boxes k e he).cut (F3 hB he).1 (F3 hB he).2,inj := ?_,rig:=fun k v hv=>by rw[JY (by have:=w0.lo k v hv;have:=Nat.le_of_ble_eq_true h2n;omega)];exact h5.rig k v hv },fun k hk=>by show Jl g b.nx k=none;unfold Jl;rw[if_neg (Nat.not_lt.2 hk)]⟩
    intro k j e e' bb q1 q2 q3 q4;rw[FC (F3 hB q1).1] at q3;rw[FC (F3 hB q2).1] at q4;exact h5.inj k j e e' bb q1 q2 q3 q4
  ·cases h
 ·cases h
def wpT (P:Program)(R:Exit→Act→World→Prop):List TI→Exit→Act→World→Prop
 | [],ex,a,w=>R ex a w
 | .code c::k,.normal,a,w=>c.wp P (wpT P R k) a w
 | .code c::k,ex,a,w=>wpT P R k ex a w
 | .blk id::k,.exit id',a,w=>if id'=id then wpT P R k .normal a w else wpT P R k (.exit id') a w
 | .blk id::k,ex,a,w=>wpT P R k ex a w
theorem Js {R:Exit→Act→World→Prop}{id:Nat} : ∀ {k k':List TI},Fi id k=some k' → ∀ a w,wpT P R k' .normal a w→wpT P R k (.exit id) a w
 | [],_,h,_,_,_=>by cases h
 | .blk i::k,k',h,a,w,hw=>by
  simp only[Fi] at h;simp only[wpT];split at h
  ·rename_i hi
   injection h with h;subst h;rw[if_pos (Nat.eq_of_beq_eq_true hi).symm];exact hw
  ·rename_i hi
   rw[if_neg (fun e=>hi (by rw[e];exact Nat.beq_refl _))]
   exact Js h a w hw
 | .code _::k,k',h,a,w,hw=>by
  simp only[Fi] at h;simp only[wpT];exact Js h a w hw
theorem Ly {R:Exit→Act→World→Prop}{id:Nat} : ∀ {k:List TI},Fi id k=none → ∀ a w,R (.exit id) a w→wpT P R k (.exit id) a w
 | [],_,_,_,h=>h
 | .blk i::k,h,a,w,hw=>by
  simp only[Fi] at h;simp only[wpT];split at h
  ·cases h
  ·rename_i hi
   rw[if_neg (fun e=>hi (by rw[e];exact Nat.beq_refl _))]
   exact Ly h a w hw
 | .code _::k,h,a,w,hw=>by
  simp only[Fi] at h;simp only[wpT];exact Ly h a w hw
theorem Lx {R:Exit→Act→World→Prop} : ∀ {k:List TI} (a:Act) (w:World),R .ret a w→wpT P R k .ret a w
 | [],_,_,h=>h
 | .blk i::k,a,w,hw=>by simp only[wpT];exact Lx (k:=k) a w hw
 | .code _::k,a,w,hw=>by simp only[wpT];exact Lx (k:=k) a w hw
theorem BC {R : Exit → Act → World → Prop} : ∀ {f : Nat} {k : List TI} {s : St} {h : List Ob} {ex : Exit} {s' : St} {os r : List Ob}, Gx P nt f k s h = some (ex, s', os, r) → Owed2 P I nt os → (∀ a w, ES I N0 w0 nt s' a w → R ex a w) → ∀ a w, ES I N0 w0 nt s a w → wpT P R k .normal a w
 | 0,_,_,_,_,_,_,_,h,_,_,_,_,_=>by cases h
 | f + 1, k, s, h, ex, s', os, r, hr, ho, hR, a, w, hs => by
  simp only[Gx] at hr;split at hr
  ·split at hr
   ·rename_i a' hre
    split at hr
    ·rename_i ex1 s1 os1 r1 hrec
     simp only[Option.some.injEq,Prod.mk.injEq] at hr;obtain ⟨rfl,rfl,rfl,rfl⟩:=hr;obtain ⟨h1,h2⟩:=ho.cons;exact BC hrec h2 hR a w (h1 N0 w0 a w (Kt hre hs))
    ·cases hr
   ·cases hr
  ·split at hr
   ·simp only[Option.some.injEq,Prod.mk.injEq] at hr
    obtain ⟨rfl,rfl,rfl,rfl⟩:=hr;exact hR a w hs
   ·simp only[wpT]
    exact BC hr ho hR a w hs
   ·rename_i c k
    simp only[wpT];split at hr
    ·exact wp_skip (BC hr ho hR a w hs)
    ·exact wp_label (BC hr ho hR a w hs)
    ·rename_i x y
     have:=BC hr ho hR a w hs;simp only[wpT] at this;refine wp_seq (wp_mono this ?_);intro e a' w' h';cases e <;> exact h'
    ·rename_i id x
     have:=BC hr ho hR a w hs;simp only[wpT] at this;refine wp_block (wp_mono this ?_);intro e a' w' h';cases e <;> exact h'
    ·rename_i id
     split at hr
     ·rename_i k' hd
      exact wp_exit (Js hd a w (BC hr ho hR a w hs))
     ·rename_i hd
      simp only[Option.some.injEq,Prod.mk.injEq] at hr;obtain ⟨rfl,rfl,rfl,rfl⟩:=hr;exact wp_exit (Ly hd a w (hR a w hs))
    ·simp only[Option.some.injEq,Prod.mk.injEq] at hr
     obtain ⟨rfl,rfl,rfl,rfl⟩:=hr;exact wp_ret (Lx a w (hR a w hs))
    ·rename_i c x y
     have hev : ∀ b,opT (look s.E) c=some (.cv (.one (.b (.lit (.bool b)))))→a.eval c = .bool b:=by
      intro b hb;obtain ⟨N,g,h1,h2⟩:=hs;cases c with
      | tmp t =>
       have:[a.tmps.getD t undef]=[.bool b]:=h1.slots t _ hb;injection this
      | const v =>
       have:[v]=[.bool b]:=GF (N:=N) (w:=w) (g:=g) hb;injection this
      | global q=>cases hb
      | func q=>simp only[opT,BF,Option.some.injEq] at hb;injection hb with hb;injection hb with hb;injection hb with hb;injection hb with hb
     split at hr
     ·rename_i hb
      have:=BC hr ho hR a w hs;simp only[wpT] at this;exact wp_cond_true (hev true hb) this
     ·rename_i hb
      have:=BC hr ho hR a w hs;simp only[wpT] at this;exact wp_cond_false (hev false hb) this
     ·cases hr
    ·rename_i id ops draw
     split at hr
     ·rename_i E B os1 h1 hro
      split at hr
      ·rename_i ex1 s1 os2 r2 hrec
       simp only[Option.some.injEq,Prod.mk.injEq] at hr;obtain ⟨rfl,rfl,rfl,rfl⟩:=hr;obtain ⟨ho1,ho2⟩:=ho.app;obtain ⟨N,g,hs1,hs2⟩:=hs;exact Sc hro ho1.plain hs1 hs2 fun N' g' a' w' q1 q2=>BC hrec ho2 hR a' w' ⟨N',g',q1,q2⟩
      ·cases hr
     ·cases hr
    ·rename_i c
     split at hr
     ·rename_i c0 aa ex0 bb h'
      split at hr
      ·rename_i a' hre
       have hst:=Kt hre hs;split at hr
       ·rename_i id
        split at hr
        ·rename_i k' hd
         split at hr
         ·rename_i ex1 s1 os1 r1 hrec
          simp only[Option.some.injEq,Prod.mk.injEq] at hr;obtain ⟨rfl,rfl,rfl,rfl⟩:=hr;obtain ⟨h1,h2⟩:=ho.cons;refine wp_mono (h1 N0 w0 a w hst) ?_;rintro e a2 w2 ⟨rfl,h3⟩;exact Js hd a2 w2 (BC hrec h2 hR a2 w2 h3)
         ·cases hr
        ·rename_i hd
         simp only[Option.some.injEq,Prod.mk.injEq] at hr;obtain ⟨rfl,rfl,rfl,rfl⟩:=hr;obtain ⟨h1,h2⟩:=ho.cons;refine wp_mono (h1 N0 w0 a w hst) ?_;rintro e a2 w2 ⟨rfl,h3⟩;exact Ly hd a2 w2 (hR a2 w2 h3)
       ·simp only[Option.some.injEq,Prod.mk.injEq] at hr
        obtain ⟨rfl,rfl,rfl,rfl⟩:=hr;obtain ⟨h1,h2⟩:=ho.cons;refine wp_mono (h1 N0 w0 a w hst) ?_;rintro e a2 w2 ⟨rfl,h3⟩;exact Lx a2 w2 (hR a2 w2 h3)
       ·cases hr
      ·cases hr
     ·cases hr
    ·cases hr
end
def FJ:Nat→List CT→Env
 | _,[]=>[]
 | i,c::r=>(i,.cv c)::FJ (i+1) r
def Sa (P:Program)(s:St):ResultVar→Option CT
 | .tmp t=>match look s.E t with
  | some (.cv c)=>some c
  | _=>none
 | .cell a t=>match look s.E a with
  | some (.cv (.one (.ptr k off)))=>match AB s.B k with
   | some e=>match Hr P t e.its off [] with
    | some (c,[],_)=>some c
    | _=>none
   | none=>none
  | _=>none
def Xj (P:Program)(s:St):List ResultVar→Option (List CT)
 | []=>some []
 | x::r=>match Sa P s x,Xj P s r with
  | some c,some l=>some (c::l)
  | _,_=>none
def UU (P:Program)(fn:Func)(s:St):Option TV :=
 match Xj P s fn.results.toList with
 | some [c]=>some (.cv c)
 | some l=>some (.tu l)
 | none=>none
def XG:Exit→Bool
 | .ret=>true
 | .normal=>true
 | _=>false
def fnT (P : Program) (nt : Nat) (f : FuncId) (args : List CT) (fuel : Nat) (hs : List Ob) : Option (List Ob × TV) :=
 match P.funcs[f]? with
 | some fn => match fn.body with
  | some c =>
   if Nat.ble args.length fn.ntmps&&Nat.beq fn.ntmps nt then
    match Gx P nt fuel [.code c] ⟨FJ 0 args,[],0⟩ hs with
    | some (ex,s,os,[]) =>
     if XG ex then
      match UU P fn s with
      | some t=>if t.noPtr then some (os,t) else none
      | none=>none
     else none
    | _=>none
   else none
  | none=>none
 | none=>none
def Kv (tmps:Array Value):ResultVar→Sem Value
 | .tmp t=>pure (tmps.getD t undef)
 | .cell b t=>do loadVar t (←asAddr (tmps.getD b undef))
theorem RY (fn:Func)(tmps:Array Value):results fn tmps=(do
  let vs ←fn.results.mapM (Kv tmps)
  pure (if h:vs.size=1 then vs[0] else .tuple vs)):=by
 unfold results;have:(fun x:ResultVar=>match x with
  | .tmp t=>pure (tmps.getD t undef)
  | .cell a t=>do loadVar t (←asAddr (tmps.getD a undef)):ResultVar→Sem Value)=Kv tmps:=by
  funext x;cases x <;> rfl
 rw[←this]
 rfl
section
variable {P:Program}{I:WInv}{nt:Nat}{N0:Nat→Prop}{w0:Grd}
theorem EV {N:Nat→Prop}{w:World}{g:Gh} : ∀ {args:List CT} {vs pre:List Value} {rest:List Value},all2 (CT.sem N w g) args vs → ∀ t v,look (FJ pre.length args) t=some v→v.sem N w g ((pre++vs++rest).getD t undef)
 | [],vs,pre,rest,h,t,v,hv=>by cases hv
 | c::args,vs,pre,rest,⟨x,l,e,h1,h2⟩,t,v,hv=>by
  simp only[FJ,look] at hv;split at hv
  ·rename_i ht
   have ht':=Nat.eq_of_beq_eq_true ht;injection hv with hv;subst hv ht' e;have e1:(pre++(x::l)++rest).getD pre.length undef=x:=by simp
   rw[e1];exact h1
  ·subst e
   have:=EV (pre:=pre++[x]) (rest:=rest) h2 t v (by simpa using hv)
   simpa using this
theorem GL {R:CT→Value→Prop} : ∀ {args:List CT} {vs:List Value},all2 R args vs→vs.length=args.length
 | [],vs,h=>by rw[show vs=[] from h];rfl
 | c::args,vs,⟨x,l,e,h1,h2⟩=>by rw[e,List.length_cons,GL h2,List.length_cons]
theorem RZ {s : St} {N : Nat → Prop} {g : Gh} {a : Act} {w : World} (hs : Sat I N0 w0 nt N g (look s.E) (AB s.B) a w) {x : ResultVar} {c : CT} (h : Sa P s x = some c) :
  ∃ v,(Kv a.tmps x).run P w = .ok v w∧c.sem N w g v:=by
 unfold Sa at h;split at h
 ·rename_i t
  split at h
  ·rename_i c' hl
   injection h with h;subst h;exact ⟨_,rfl,hs.slots t _ hl⟩
  ·cases h
 ·rename_i b t
  split at h
  ·rename_i k off hl
   split at h
   ·rename_i e hb
    split at h
    ·rename_i c' r hp
     injection h with h;subst h;obtain ⟨bb,hg,he⟩:=hs.slots b _ hl;injection he with he;obtain ⟨cs,m,h1,h2,h3,h4,h5,h6,h7,h8⟩:=(hs.boxes k e hb).at hg;obtain ⟨q,n,ha,hn,k1,hl2,hsem⟩:=FQ (I:=I) hp (fun o ho=>by cases ho) h2
     refine ⟨_,?_,hsem⟩;simp only[Kv,Sem.run_bind,he,asAddr,Sem.run_pure,Result.andThen_ok,G9 ha hn k1 w cs e.T h1 hl2]
    ·cases h
   ·cases h
  ·cases h
theorem Mn {s:St}{N:Nat→Prop}{g:Gh}{a:Act}{w:World}(hs:Sat I N0 w0 nt N g (look s.E) (AB s.B) a w) : ∀ {xs:List ResultVar} {cs:List CT},Xj P s xs=some cs →
  ∃ vs,(xs.mapM (Kv a.tmps)).run P w = .ok vs w∧all2 (CT.sem N w g) cs vs
 | [],cs,h=>by
  simp only[Xj,Option.some.injEq] at h;subst h;exact ⟨[],rfl,rfl⟩
 | x::xs,cs,h=>by
  simp only[Xj] at h;split at h
  ·rename_i c l h1 h2
   injection h with h;subst h;obtain ⟨v,r1,r2⟩:=RZ hs h1;obtain ⟨vs,r3,r4⟩:=Mn hs h2;refine ⟨v::vs,?_,⟨v,vs,rfl,r2,r4⟩⟩;simp only[List.mapM_cons,Sem.run_bind,r1,Result.andThen_ok,r3,Sem.run_pure]
  ·cases h
theorem Mm {fn:Func}{s:St}{N:Nat→Prop}{g:Gh}{a:Act}{w:World}(hs:Sat I N0 w0 nt N g (look s.E) (AB s.B) a w){t:TV}(h:UU P fn s=some t) : ∃ v,(results fn a.tmps).run P w = .ok v w∧t.sem N w g v:=by
 have hm : ∀ vs,(fn.results.toList.mapM (Kv a.tmps)).run P w = .ok vs w→(results fn a.tmps).run P w = .ok (if h:vs.toArray.size=1 then vs.toArray[0] else .tuple vs.toArray) w:=by
  intro vs hv;rw[RY,Sem.run_bind,Array.mapM_eq_mapM_toList,map_eq_pure_bind,Sem.run_bind,hv];simp
 unfold UU at h;split at h
 ·rename_i c hl
  injection h with h;subst h;obtain ⟨vs,r1,⟨v,l,rfl,r2,r3⟩⟩:=Mn hs hl;have:l=[]:=r3;subst this;exact ⟨v,hm _ r1,r2⟩
 ·rename_i l hne hl
  injection h with h;subst h;obtain ⟨vs,r1,r2⟩:=Mn hs hl;refine ⟨.tuple vs.toArray,?_,vs,rfl,r2⟩;rw[hm _ r1];have hlen:=GL r2;have:vs.toArray.size≠1:=by
   simp only[List.size_toArray,hlen];intro h1
   match l,hne,h1 with
   | [c],hne,_=>exact hne c rfl
  rw[dif_neg this]
 ·cases h
theorem AaV {N:Nat→Prop}{w w':World}{rig:Nat→Option GV}{le lo}{b:Nat}(h:Nz N ⟨w,fun b=>b < w.heap.size,rig,le,lo⟩ w' b):Nx N w w' b:=h.imp id fun h=>⟨Nat.not_lt.1 h.1,h.2⟩
theorem LF {w w':World}(h:KBelow (fun b=>b < w.heap.size) w w'):Below w.heap.size w w':=⟨h.os,h.tape,h.output,h.size,h.block⟩
theorem AcD {f : FuncId} {args : List CT} {fuel : Nat} {hs os : List Ob} {res : TV} (h : fnT P nt f args fuel hs = some (os, res)) (ho : Owed2 P I nt os) : Sp P I f args res := by
 unfold fnT at h;split at h
 ·rename_i fn hf
  split at h
  ·rename_i c hb
   split at h
   ·rename_i hn
    simp only[Bool.and_eq_true] at hn;have hnt:fn.ntmps=nt:=Nat.eq_of_beq_eq_true hn.2;have hle:=Nat.le_of_ble_eq_true hn.1;split at h
    ·rename_i ex s os' hr
     split at h
     ·rename_i hex
      split at h
      ·rename_i t ht
       split at h
       ·rename_i hnp
        simp only[Option.some.injEq,Prod.mk.injEq] at h;obtain ⟨rfl,rfl⟩:=h;intro N w vs hI hlow hargs;have hlen:=GL hargs;refine calls_of_wp hf hb ?_;have hst:ES I N ⟨w,fun b=>b < w.heap.size,fun _=>none,fun _ h=>h,fun _ _ h=>by cases h⟩ nt ⟨FJ 0 args,[],0⟩ { tmps:=vs.toArray++Array.replicate (fn.ntmps - vs.toArray.size) undef,defers:=[] } w:=by
         refine ⟨N,G0,⟨?_,?_,?_,hlow,fun b hb => .inl hb,fun b hb=>hb,KBelow.refl _ _,?_,rfl,hI,fun _ _ h=>by cases h⟩,fun k _=>rfl⟩
         ·intro t v hv
          have:=EV (pre:=[]) (rest:=(Array.replicate (fn.ntmps - vs.toArray.size) undef).toList) hargs t v hv;have e:(vs.toArray++Array.replicate (fn.ntmps - vs.toArray.size) undef).getD t undef=(([]:List Value)++vs++(Array.replicate (fn.ntmps - vs.toArray.size) undef).toList).getD t undef:=by
           rw[Array.getD_eq_getD_getElem?,List.getD_eq_getElem?_getD,←Array.getElem?_toList,Array.toList_append];rfl
          show v.sem N w G0 ((vs.toArray++Array.replicate (fn.ntmps - vs.toArray.size) undef).getD t undef);rw[e];exact this
         ·intro k e he;cases he
         ·intro k j e e' b he;cases he
         ·simp only[Array.size_append,List.size_toArray,Array.size_replicate];omega
        have:=BC (R:=bodyPost P fn fun e w' => ∃ v,e = .returned v∧t.sem (Nx N w w') w' G0 v∧Below w.heap.size w w') hr ho (fun a' w' hs'=>by
         obtain ⟨N',g',q1,q2⟩:=hs';obtain ⟨v,r1,r2⟩:=Mm q1 ht;have hfin:a'.defers=[] ∧ ∃ v,(results fn a'.tmps).run P w' = .ok v w' ∧ ∃ v',Ending.returned v = .returned v'∧t.sem (Nx N w w') w' G0 v'∧Below w.heap.size w w' :=
          ⟨q1.defers,v,r1,v,rfl,TV.noPtr_sem hnp (TV.step r2 (WStep.refl _ _) (fun b hb=>AaV (q1.sub b hb)) (GExt.refl _)),LF q1.below⟩
         cases ex <;> first | exact hfin | cases hex) _ w hst
        simp only[wpT] at this;exact this
       ·cases h
      ·cases h
     ·cases h
    ·cases h
   ·cases h
  ·cases h
 ·cases h
def fnN (P : Program) (nt : Nat) (f : FuncId) (args : List CT) (K : Nat) (fuel : Nat) (hs : List Ob) : Option (List Ob × Option (List CT) × Ent) :=
 match P.funcs[f]? with
 | some fn => match fn.body with
  | some c =>
   if Nat.ble args.length fn.ntmps&&Nat.beq fn.ntmps nt then
    match Gx P nt fuel [.code c] ⟨FJ 0 args,[],0⟩ hs with
    | some (ex,s,os,[]) =>
     if XG ex then
      match UU P fn s,AB s.B K with
      | some (.cv (.one (.sl k))),some e=>if Nat.beq k K&&e.sl.isSome then some (os,none,e) else none
      | some (.tu (.one (.sl k)::l)),some e=>if Nat.beq k K&&l.all CT.noPtr&&e.sl.isSome then some (os,some l,e) else none
      | _,_=>none
     else none
    | _=>none
   else none
  | none=>none
 | none=>none
theorem Zt {N':Nat→Prop}{w w':World}{g:Gh}{K:Nat}{e:Ent}{rest:Option (List CT)}{v:Value}(hb:BoxSem N' w' g (fun b=>b < w.heap.size) K e)(hn:e.its.all It.noPtr=true)(hs:e.sl.isSome=true)(hr:ON rest=true)(hv:(OO K rest).sem N' w' g v) :
  ∃ A n c,(OO 0 rest).sem N' w' (JD (.sl A n c)) v∧BoxSem N' w' (JD (.sl A n c)) (fun b=>b < w.heap.size) 0 e:=by
 obtain ⟨⟨s,n⟩,hs⟩:=Option.isSome_iff_exists.1 hs;obtain ⟨A,c,xs,hg,hown,hsem,hblk⟩:=hb.own hs;refine ⟨A,n,c,?_,?_⟩
 ·have key : ∀ {u:Value},(CT.one (.sl K)).sem N' w' g u→(CT.one (.sl 0)).sem N' w' (JD (.sl A n c)) u:=by
   rintro u ⟨A',n',c',h1,h2⟩;rw[hg] at h1;injection h1 with h1;injection h1 with q1 q2 q3;subst q1 q2 q3;exact ⟨A,n,c,rfl,h2⟩
  cases rest with
  | none=>exact key hv
  | some l =>
   obtain ⟨vs,e,u,r,e2,h1,h2⟩:=hv;exact ⟨vs,e,u,r,e2,key h1,DH hr h2⟩
 ·obtain ⟨gv,h1,h2⟩:=hb
  rw[hg] at h1;injection h1 with h1;subst h1;refine ⟨_,rfl,?_⟩;rcases h2 with ⟨s,n,r1,r2,r3,r4⟩ | ⟨b,cs,l,r1,r2,r3,r4⟩
  ·exact .inl ⟨s,n,r1,r2,r3,CI hn r4⟩
  ·exact .inr ⟨b,cs,l,r1,r2,CI hn r3,r4⟩
theorem Abs {f : FuncId} {args : List CT} {fuel K : Nat} {hs os : List Ob} {rest : Option (List CT)} {e : Ent} (h : fnN P nt f args K fuel hs = some (os, rest, e)) (hnp : e.its.all It.noPtr = true) (ho : Owed2 P I nt os) : SpN P I f args rest e := by
 unfold fnN at h;split at h
 ·rename_i fn hf
  split at h
  ·rename_i c hb
   split at h
   ·rename_i hn
    simp only[Bool.and_eq_true] at hn;have hnt:fn.ntmps=nt:=Nat.eq_of_beq_eq_true hn.2;have hle:=Nat.le_of_ble_eq_true hn.1;split at h
    ·rename_i ex s os' hr
     split at h
     ·rename_i hex
      have hfinal : ∃ t,UU P fn s=some t∧t=OO K rest∧AB s.B K=some e∧ON rest=true∧e.sl.isSome=true∧os'=os:=by
       split at h
       ·rename_i k e1 ht he
        split at h
        ·rename_i hc
         simp only[Bool.and_eq_true] at hc;simp only[Option.some.injEq,Prod.mk.injEq] at h;obtain ⟨rfl,rfl,rfl⟩:=h;have:=Nat.eq_of_beq_eq_true hc.1;subst this;exact ⟨_,ht,rfl,he,rfl,hc.2,rfl⟩
        ·cases h
       ·rename_i k l e1 ht he
        split at h
        ·rename_i hc
         simp only[Bool.and_eq_true] at hc;simp only[Option.some.injEq,Prod.mk.injEq] at h;obtain ⟨rfl,rfl,rfl⟩:=h;have:=Nat.eq_of_beq_eq_true hc.1.1;subst this;exact ⟨_,ht,rfl,he,hc.1.2,hc.2,rfl⟩
        ·cases h
       ·cases h
      obtain ⟨t,ht,rfl,he,h1,h3,rfl⟩:=hfinal;refine ⟨hnp,?_⟩;intro N w vs hI hlow hargs;have hlen:=GL hargs;refine calls_of_wp hf hb ?_;have hst:ES I N ⟨w,fun b=>b < w.heap.size,fun _=>none,fun _ h=>h,fun _ _ h=>by cases h⟩ nt ⟨FJ 0 args,[],0⟩ { tmps:=vs.toArray++Array.replicate (fn.ntmps - vs.toArray.size) undef,defers:=[] } w:=by
       refine ⟨N,G0,⟨?_,?_,?_,hlow,fun b hb => .inl hb,fun b hb=>hb,KBelow.refl _ _,?_,rfl,hI,fun _ _ h=>by cases h⟩,fun k _=>rfl⟩
       ·intro t v hv
        have:=EV (pre:=[]) (rest:=(Array.replicate (fn.ntmps - vs.toArray.size) undef).toList) hargs t v hv;have e:(vs.toArray++Array.replicate (fn.ntmps - vs.toArray.size) undef).getD t undef=(([]:List Value)++vs++(Array.replicate (fn.ntmps - vs.toArray.size) undef).toList).getD t undef:=by
         rw[Array.getD_eq_getD_getElem?,List.getD_eq_getElem?_getD,←Array.getElem?_toList,Array.toList_append];rfl
        show v.sem N w G0 ((vs.toArray++Array.replicate (fn.ntmps - vs.toArray.size) undef).getD t undef);rw[e];exact this
       ·intro k e he;cases he
       ·intro k j e e' b he;cases he
       ·simp only[Array.size_append,List.size_toArray,Array.size_replicate];omega
      have:=BC (R:=bodyPost P fn fun en w' => ∃ v N' A n c,en = .returned v∧(∀ b,N b→N' b)∧(∀ b,N' b→Nx N w w' b)∧(OO 0 rest).sem N' w' (JD (.sl A n c)) v∧BoxSem N' w' (JD (.sl A n c)) (fun b=>b < w.heap.size) 0 e∧Below w.heap.size w w') hr ho (fun a' w' hs'=>by
       obtain ⟨N',g',q1,q2⟩:=hs';obtain ⟨v,r1,r2⟩:=Mm q1 ht;obtain ⟨A,n,c,r3,r4⟩:=Zt (q1.boxes K e he) hnp h3 h1 r2;have hfin:a'.defers=[] ∧ ∃ v,(results fn a'.tmps).run P w' = .ok v w' ∧ ∃ v' N'' A n c,Ending.returned v = .returned v'∧(∀ b,N b→N'' b)∧(∀ b,N'' b→Nx N w w' b)∧(OO 0 rest).sem N'' w' (JD (.sl A n c)) v'∧BoxSem N'' w' (JD (.sl A n c)) (fun b=>b < w.heap.size) 0 e∧Below w.heap.size w w' :=
        ⟨q1.defers,v,r1,v,N',A,n,c,rfl,q1.sup,fun b hb=>AaV (q1.sub b hb),r3,r4,LF q1.below⟩
       cases ex <;> first | exact hfin | cases hex) _ w hst
      simp only[wpT] at this;exact this
     ·cases h
    ·cases h
   ·cases h
  ·cases h
 ·cases h
def fnM (P : Program) (nt : Nat) (f : FuncId) (ins : Bxs) (args : List CT) (outs : Bxs) (fuel : Nat) (hs : List Ob) : Option (List Ob × TV × Bxs) :=
 match P.funcs[f]? with
 | some fn => match fn.body with
  | some c =>
   if Nat.ble args.length fn.ntmps&&Nat.beq fn.ntmps nt then
    match Gx P nt fuel [.code c] ⟨FJ 0 args,ins,nI ins⟩ hs with
    | some (ex,s,os,[]) =>
     if XG ex then
      match UU P fn s,NH s.B outs with
      | some t,some B=>some (os,t,B)
      | _,_=>none
     else none
    | _=>none
   else none
  | none=>none
 | none=>none
theorem Abt {f : FuncId} {args : List CT} {fuel : Nat} {ins outs : Bxs} {hs os : List Ob} {res : TV} (h : fnM P nt f ins args outs fuel hs = some (os, res, outs)) (ho : Owed2 P I nt os) : SpM P I f ins args outs res := by
 unfold fnM at h;split at h
 ·rename_i fn hf
  split at h
  ·rename_i c hb
   split at h
   ·rename_i hn
    simp only[Bool.and_eq_true] at hn;have hnt:fn.ntmps=nt:=Nat.eq_of_beq_eq_true hn.2;have hle:=Nat.le_of_ble_eq_true hn.1;split at h
    ·rename_i ex s os' hr
     split at h
     ·rename_i hex
      split at h
      ·rename_i t B ht hB
       ·simp only[Option.some.injEq,Prod.mk.injEq] at h
        obtain ⟨rfl,rfl,rfl⟩:=h;intro N K w g vs hI hlow hK hbx hinj hg2 hargs;have hlen:=GL hargs;refine calls_of_wp hf hb ?_
        let G:Grd:=⟨w,K,fun k=>if rgN k=true then g k else none,hK,fun k v h=>by
         by_cases hk:rgN k=true
         ·unfold rgN at hk;rw[Bool.or_eq_true] at hk;exact hk.imp (fun h=>Nat.le_of_ble_eq_true h) (fun h=>Nat.eq_of_beq_eq_true h)
         ·rw[if_neg hk] at h;cases h⟩
        have hst:ES I N G nt ⟨FJ 0 args,ins,nI ins⟩ { tmps:=vs.toArray++Array.replicate (fn.ntmps - vs.toArray.size) undef,defers:=[] } w:=by
         refine ⟨N,g,⟨?_,hbx,hinj,hlow,fun b hb => .inl hb,fun b hb=>hb,KBelow.refl _ _,?_,rfl,hI,fun k v h => ?_⟩,fun k hk=>hg2 k hk⟩
         ·intro t v hv
          have:=EV (pre:=[]) (rest:=(Array.replicate (fn.ntmps - vs.toArray.size) undef).toList) hargs t v hv;have e:(vs.toArray++Array.replicate (fn.ntmps - vs.toArray.size) undef).getD t undef=(([]:List Value)++vs++(Array.replicate (fn.ntmps - vs.toArray.size) undef).toList).getD t undef:=by
           rw[Array.getD_eq_getD_getElem?,List.getD_eq_getElem?_getD,←Array.getElem?_toList,Array.toList_append];rfl
          show v.sem N w g ((vs.toArray++Array.replicate (fn.ntmps - vs.toArray.size) undef).getD t undef);rw[e];exact this
         ·simp only[Array.size_append,List.size_toArray,Array.size_replicate];omega
         ·have h:(if rgN k=true then g k else none)=some v:=h
          by_cases hk:rgN k=true
          ·rw[if_pos hk] at h;exact h
          ·rw[if_neg hk] at h;cases h
        have:=BC (R:=bodyPost P fn fun en w' => ∃ v N' g',en = .returned v∧(∀ b,N b→N' b)∧(∀ b,N' b→N b∨(¬ K b∧b < w'.heap.size))∧KBelow K w w'∧(∀ k e,AB B k=some e→BoxSem N' w' g' K k e) ∧
          (∀ k j e e' b,AB B k=some e→AB B j=some e'→AI g' k=some b→AI g' j=some b→k=j)∧(∀ k u,rgN k=true→g k=some u→g' k=some u)∧t.sem N' w' g' v) hr ho (fun a' w' hs'=>by
         obtain ⟨N',g',q1,q2⟩:=hs';obtain ⟨v,r1,r2⟩:=Mm q1 ht;have hrig : ∀ k,rgN k=true → ∀ u,g k=some u→g' k=some u:=fun k hk u hu=>q1.rig k u (by show (if rgN k=true then g k else none)=_;rw[if_pos hk];exact hu)
         have hfin:a'.defers=[] ∧ ∃ v,(results fn a'.tmps).run P w' = .ok v w' ∧ ∃ v' N'' g'',Ending.returned v = .returned v'∧(∀ b,N b→N'' b)∧(∀ b,N'' b→N b∨(¬ K b∧b < w'.heap.size))∧KBelow K w w'∧(∀ k e,AB B k=some e→BoxSem N'' w' g'' K k e) ∧
           (∀ k j e e' b,AB B k=some e→AB B j=some e'→AI g'' k=some b→AI g'' j=some b→k=j)∧(∀ k u,rgN k=true→g k=some u→g'' k=some u)∧t.sem N'' w' g'' v' :=
          ⟨q1.defers,v,r1,v,N',g',rfl,q1.sup,q1.sub,q1.below,fun k e he=>q1.boxes k e (E8 hB k e he),fun k j e e' b h1 h2=>q1.inj k j e e' b (E8 hB k e h1) (E8 hB j e' h2),fun k u hk hu=>hrig k hk u hu,r2⟩
         cases ex <;> first | exact hfin | cases hex) _ w hst
        simp only[wpT] at this;exact this
      ·cases h
     ·cases h
    ·cases h
   ·cases h
  ·cases h
 ·cases h
abbrev PO (P:Program)(I:WInv)(nt:Nat):={ o:Ob // o.more P I nt }
def obs (l:List (PO P I nt)):List Ob:=match l with
 | []=>[]
 | x::r=>x.1::obs r
theorem G4 : ∀ (l:List (PO P I nt)),Owed2 P I nt (obs l)
 | []=>fun o ho=>by cases ho
 | x::r=>fun o ho=>by
  rcases List.mem_cons.1 ho with h | h
  ·rw[h];exact x.2
  ·exact G4 r o h
theorem Abv {f:FuncId}{args:List CT}{res:TV}(fuel:Nat)(l:List (PO P I nt))(h:fnT P nt f args fuel (obs l)=some (obs l,res)):Sp P I f args res:=AcD h (G4 l)
abbrev pa:PO P I nt:=⟨.auto,trivial⟩
abbrev pom (ks:List Nat){f:FuncId}{ins outs:Bxs}{args:List CT}{res:TV}(h:SpM P I f ins args outs res)(h1:NpB ins:=by repeat' first | exact trivial | exact fun h=>absurd h Bool.false_ne_true | exact fun _=>List.all_eq_true.2 (fun x hx=>(List.mem_map.1 hx).elim fun y h=>h.2▸rfl) | refine ⟨?_,?_⟩)(h2:NpB outs:=by repeat' first | exact trivial | exact fun h=>absurd h Bool.false_ne_true | exact fun _=>List.all_eq_true.2 (fun x hx=>(List.mem_map.1 hx).elim fun y h=>h.2▸rfl) | refine ⟨?_,?_⟩):PO P I nt:=⟨.spm f ks ins args outs res,h,h1,h2⟩
theorem Zu {f:FuncId}{args:List CT}{ins outs:Bxs}{res:TV}(fuel:Nat)(l:List (PO P I nt))(h:fnM P nt f ins args outs fuel (obs l)=some (obs l,res,outs)):SpM P I f ins args outs res:=Abt h (G4 l)
theorem Zs {f:FuncId}{args:List CT}{rest:Option (List CT)}{e:Ent}(K fuel:Nat)(l:List (PO P I nt))(hn:e.its.all It.noPtr=true)(h:fnN P nt f args K fuel (obs l)=some (obs l,rest,e)):SpN P I f args rest e:=Abs h hn (G4 l)
def EY:Code→List Code
 | .seq a b=>EY a++EY b
 | .cond _ a b=>EY a++EY b
 | .block _ a=>EY a
 | .loop a=>a::EY a
 | .scope a=>EY a
 | _=>[]
def Bj (P:Program)(f:FuncId)(i:Nat):Code :=
 match P.funcs[f]? with
 | some fn=>match fn.body with
  | some c=>(EY c).getD i .skip
  | none => .skip
 | none => .skip
abbrev pl {c:Code}{a b:St}{ex:Exit}(h:LoopTr P I nt c a ex b):PO P I nt:=⟨.loop c a ex b,h⟩
abbrev pm {a b:St}(h:Leads I nt a b):PO P I nt:=⟨.leads a b,h⟩
theorem Uz {c:Code}{Q:Exit→Act→World→Prop}(J:Nat→Act→World→Prop)(round : ∀ n a w,J n a w→c.wp P (Exit.then (fun a' w' => ∃ m,m < n∧J m a' w') Q) a w)(n:Nat)(a:Act)(w:World)(h0:J n a w):(Code.loop c).wp P Q a w:=by
 intro b k cs;have key : ∀ n a w,J n a w → ∃ e a' w',Q e a' w'∧Arrives P (lone (b.at a (.code c :: .inLoop c::k)) cs w) b k cs e a' w':=by
  intro n;induction n using Nat.strongRecOn with
  | _ n ih =>
   intro a w hI;obtain ⟨e,a₁,w₁,hq,harr⟩:=round n a w hI b (.inLoop c::k) cs;cases e with
   | normal =>
    obtain ⟨m,hlt,hI₁⟩:=hq;obtain ⟨e₂,a₂,w₂,hq₂,harr₂⟩:=ih m hlt a₁ w₁ hI₁;exact ⟨e₂,a₂,w₂,hq₂,.of_steps (Steps.trans harr (.one step_inLoop)) harr₂⟩
   | exit id=>exact ⟨_,a₁,w₁,hq,.pass (x := .inLoop c) rfl (fun _ _ => .inl (by simp)) harr⟩
   | goto l=>exact ⟨_,a₁,w₁,hq,.pass (x := .inLoop c) rfl (fun _ _ => .inl (by simp)) harr⟩
   | ret=>exact ⟨_,a₁,w₁,hq,.pass (x := .inLoop c) rfl (fun _ _ => .inl (by simp)) harr⟩
   | panic ch=>exact ⟨_,a₁,w₁,hq,.pass (x := .inLoop c) rfl (fun _ _ => .inl (by simp)) harr⟩
   | outgrown=>exact ⟨_,a₁,w₁,hq,.pass (x := .inLoop c) rfl (fun _ _ => .inl (by simp)) harr⟩
 obtain ⟨e,a',w',hq,harr⟩:=key n a w h0;exact ⟨e,a',w',hq,.of_steps (.one step_loop) harr⟩
def Rnd (P:Program)(I:WInv)(nt:Nat)(c:Code)(s:St)(ex:Exit)(t:St):Prop :=
 ∀ N0 w0 a w,ES I N0 w0 nt s a w→c.wp P (fun e a' w'=>e=ex∧ES I N0 w0 nt t a' w') a w
theorem Rnd.leads {c:Code}{s:St}{ex:Exit}{t u:St}(h:Rnd P I nt c s ex t)(hl:Leads I nt t u):Rnd P I nt c s ex u :=
 fun N0 w0 a w hs=>wp_mono (h N0 w0 a w hs) fun e a' w' ⟨h1,h2⟩=>⟨h1,hl N0 w0 a' w' h2⟩
def Ab6 (P:Program)(nt:Nat)(c:Code)(s:St)(fuel:Nat)(hs:List Ob)(t:St):Option (Exit×List Ob×St) :=
 match Gx P nt fuel [.code c] s hs with
 | some (ex,s',os,[])=>match Qq s' t with
  | some t'=>some (ex,os,t')
  | none=>none
 | _=>none
theorem Z1 {c:Code}{s t:St}{ex:Exit}(fuel:Nat)(l:List (PO P I nt))(h:Ab6 P nt c s fuel (obs l) t=some (ex,obs l,t)):Rnd P I nt c s ex t:=by
 unfold Ab6 at h;split at h
 ·rename_i ex' s' os hr
  split at h
  ·rename_i t' hre
   simp only[Option.some.injEq,Prod.mk.injEq] at h;obtain ⟨rfl,h2,rfl⟩:=h;intro N0 w0 a w hs;have:=BC (R:=fun e a' w'=>e=ex'∧ES I N0 w0 nt t' a' w') hr (by rw[h2];exact G4 l) (fun a' w' hs'=>⟨rfl,Kt hre hs'⟩) a w hs
   simp only[wpT] at this;exact this
  ·cases h
 ·cases h
theorem TM {ι:Type}{c:Code}{ex:Exit}{b:St}(hex:ex ≠ .normal)(s:ι→St)(mu:ι→Nat)(ok:ι→Prop)(i0:ι)(h0:ok i0)(round : ∀ i,ok i→(∃ j,ok j∧mu j < mu i∧Rnd P I nt c (s i) .normal (s j))∨Rnd P I nt c (s i) ex b):LoopTr P I nt c (s i0) ex b:=by
 intro N0 w0 a w hs;refine Uz (fun n a w => ∃ i,ok i∧mu i=n∧ES I N0 w0 nt (s i) a w) ?_ (mu i0) a w ⟨i0,h0,rfl,hs⟩
 rintro n a w ⟨i,hok,rfl,hsi⟩;rcases round i hok with ⟨j,hj1,hj2,hr⟩ | hr
 ·refine wp_mono (hr N0 w0 a w hsi) ?_
  rintro e a' w' ⟨rfl,h2⟩;exact ⟨mu j,hj2,j,hj1,rfl,h2⟩
 ·refine wp_mono (hr N0 w0 a w hsi) ?_
  rintro e a' w' ⟨rfl,h2⟩;cases e <;> first | exact ⟨rfl,h2⟩ | exact absurd rfl hex
end
section
variable {P:Program}{I:WInv}
theorem sr (n:Nat){f:FuncId}{a:List CT}{r:TV}(l:List (PO P I n))(h:fnT P n f a 1000 (obs l)=some (obs l,r):=by kernel_rfl):Sp P I f a r:=Abv 1000 l h
theorem sm (n:Nat){f:FuncId}{a:List CT}{i o:Bxs}{r:TV}(l:List (PO P I n))(h:fnM P n f i a o 1000 (obs l)=some (obs l,r,o):=by kernel_rfl):SpM P I f i a o r:=Zu 1000 l h
theorem sn (n k:Nat){f:FuncId}{a:List CT}{r:Option (List CT)}{e:Ent}(l:List (PO P I n))(hn:e.its.all It.noPtr=true)(h:fnN P n f a k 1000 (obs l)=some (obs l,r,e):=by kernel_rfl):SpN P I f a r e:=Zs k 1000 l hn h
theorem rr {n:Nat}{c:Code}{s t:St}{x:Exit}(l:List (PO P I n))(h:Ab6 P n c s 1000 (obs l) t=some (x,obs l,t):=by kernel_rfl):Rnd P I n c s x t:=Z1 1000 l h
end
end Go.Proofs.YtdgbealknnmkoaaGreatDoor
