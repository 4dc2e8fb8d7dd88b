/- Texts of one proof, put together by a program: each lemma is proved for all values of its variables, under the premises that it states. -/
import Derived.Below
import Derived.ChangeKeysEq
import Derived.Conc.EntryLaws
import Derived.Laws.CopyRow
import Derived.Laws.Entries
import Derived.Lib.Hide
import Derived.Orders
set_option linter.unusedVariables false
set_option linter.unusedSimpArgs false
namespace Go.Proofs.YtdgbealknnmkoaaGreatDoor
open Go Go.RowKit
def VS (P:Program)(t:TypeId):Option Bool :=
 match P.underlying t with
 | some (.struct _)=>some true
 | some (.array _ _)=>some true
 | some _=>some false
 | none=>none
def Cd (P:Program)(t:TypeId):Option Nat:=(P.info? t).map (·.size)
def K3 (P:Program)(f:FuncId):Bool :=
 match P.funcs[f]? with
 | some fn => !(fn.name == "runtime.NumGoroutine") && fn.body.isSome
 | none=>false
section
variable {P:Program}{o:Oper}{rv:Operand→Value}{r:List Value}{g:Nat→Nat}
theorem Kj {t:TypeId}{b:Bool}(h:VS P t=some b)(w:World):(isAgg t).run P w = .ok b w:=by
 unfold VS at h;unfold isAgg;cases hu:P.underlying t with
 | none=>simp[hu] at h
 | some d=>cases d <;> simp[hu] at h <;> subst h <;> simp[underlying,hu]
theorem C0 {t:TypeId}{n:Nat}(h:Cd P t=some n)(w:World):(Go.sizeOf t).run P w = .ok n w:=by
 unfold Cd at h;cases hi:P.info? t with
 | none=>simp[hi] at h
 | some i=>simp[hi] at h;subst h;rw[run_sizeOf w hi];simp[Program.cellsOf,hi]
end
section
variable {P:Program}{o:Oper}{rv:Operand→Value}{r:List Value}{g:Nat→Nat}
theorem D3 (b off n:Nat):(⟨b,off,none⟩:Addr).add n=⟨b,off+n,none⟩:=by unfold Addr.add;split <;> simp_all
theorem G9 {t:TypeId}{b:Bool}{n blk off:Nat}(ha:VS P t=some b)(hn:Cd P t=some n)(h1:b=false→n=1)(w:World)(cs:Array Value)(T:TypeId){fr:Nat×Nat}(hh:w.heap[blk]? = some (.cells cs T fr))(hl:off+n≤cs.size) :
  (loadVar t ⟨blk,off,none⟩).run P w = .ok (if b then .agg (cs.extract off (off+n)) else cs.getD off undef) w:=by
 have hc : ∀ j v,(cs.extract off (off+n)).toList[j]? = some v→w.cell? ((⟨blk,off,none⟩:Addr).add j)=some v:=by
  intro j v hj;rw[D3];simp[World.cell?,hh];simp[List.getElem?_take,List.getElem?_drop] at hj;exact hj.2
 have hlen:(cs.extract off (off+n)).toList.length=n:=by simp;omega
 simp only[loadVar,Sem.run_bind,Kj ha,Result.andThen_ok];cases b with
 | true =>
  have:=run_loadCells_list (P:=P) w ⟨blk,off,none⟩ _ hc;rw[hlen] at this;have he:(cs.extract off (off+n)).toList.toArray=cs.extract off (off+n):=Array.ext' (by simp)
  rw[he] at this;simp only[if_true,Sem.run_bind,C0 hn,Result.andThen_ok,this]
  rfl
 | false =>
  have hn1:=h1 rfl;subst hn1;have hlt:off < cs.size:=by omega
  have:w.cell? ⟨blk,off,none⟩=some (cs.getD off undef):=by simp[World.cell?,hh,hlt]
  simp[Go.load,Sem.run,this]
theorem OI {t:TypeId}{n blk off:Nat}{v:Value}(hn:Cd P t=some n)(w:World)(cur:Array Value)(T:TypeId)(hh:w.heap[blk]? = some (.cells cur T (0,0)))(vs:List Value)(hv:v.cells=vs.toArray)(hvn:vs.length=n)(hl:off+vs.length≤cur.size)(h1 : ∀ x∈vs,x.oneCell'=true) :
  (storeVar t ⟨blk,off,none⟩ v).run P w = .ok () (w.setRow blk (cur.toList.take off++vs++cur.toList.drop (off+vs.length)).toArray):=by
 subst hvn;have:=run_storeCells_at (P:=P) blk off T vs 0 cur w hh (by simpa using hl) h1
 simp only[storeVar,Sem.run_bind,C0 hn,Result.andThen_ok,hv,List.size_toArray];simp at this;simp[this]
theorem Od : ∀ (vs : List Value) (cs : Array Value) (off j : Nat), off + j + vs.length ≤ cs.size →
  (vs.zipIdx j).foldl (fun cs (x:Value×Nat)=>cs.setIfInBounds (off+x.2) x.1) cs=(cs.toList.take (off+j)++vs++cs.toList.drop (off+j+vs.length)).toArray:=by
 intro vs;induction vs with
 | nil=>intro cs off j h;simp
 | cons v vs ih =>
  intro cs off j h;simp at h;have h':=ih (cs.setIfInBounds (off+j) v) off (j+1) (by simp;omega)
  simp only[List.zipIdx_cons,List.foldl_cons];rw[h'];apply Array.ext';apply List.ext_getElem?;intro k;simp only[List.getElem?_append,List.getElem?_take,List.getElem?_drop,List.length_append,List.length_take,List.length_cons,Array.length_toList,Array.size_setIfInBounds,Array.getElem?_toList,Array.getElem?_setIfInBounds,List.getElem?_cons];have hs:off+j < cs.size:=by omega
  rw[Nat.min_eq_left (by omega:off+(j+1)≤cs.size),Nat.min_eq_left (by omega:off+j≤cs.size)]
  by_cases h1:k < off+j
  ·have:k < off+(j+1)+vs.length:=by omega
   have:k < off+(j+1):=by omega
   have:k < off+j+(vs.length+1):=by omega
   have : ¬ off+j=k:=by omega
   simp[*]
  ·by_cases h2:k=off+j
   ·subst h2
    have e1:off+j < off+(j+1)+vs.length:=by omega
    have e2:off+j < off+(j+1):=by omega
    have e3:off+j < off+j+(vs.length+1):=by omega
    simp[e1,e2,e3,hs]
   ·by_cases h3:k < off+j+(vs.length+1)
    ·have e1:k < off+(j+1)+vs.length:=by omega
     have e2 : ¬ k < off+(j+1):=by omega
     have e4:k - (off+j)=(k - (off+(j+1)))+1:=by omega
     simp[e1,e2,h1,h3,e4]
    ·have e1 : ¬ k < off+(j+1)+vs.length:=by omega
     have e5:off+(j+1)+vs.length+(k - (off+(j+1)+vs.length))=k:=by omega
     have e6:off+j+(vs.length+1)+(k - (off+j+(vs.length+1)))=k:=by omega
     have e7 : ¬ off+j=k:=by omega
     simp[e1,h1,h3,e5,e6,e7]
end
end Go.Proofs.YtdgbealknnmkoaaGreatDoor
