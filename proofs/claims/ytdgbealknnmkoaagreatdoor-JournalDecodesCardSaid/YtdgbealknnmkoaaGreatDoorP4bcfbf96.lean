/- Texts of one proof, put together by a program: each lemma is proved for all values of its variables, under the premises that it states. -/
import Derived.ChangeOld
import Derived.OpenShut
import Derived.ProofKit
import Derived.ShutString
import Derived.Test.YtdgbealknnmkoaaGreatDoorP2d4812f5
set_option linter.unusedVariables false
set_option linter.unusedSimpArgs false
namespace Go.Proofs.YtdgbealknnmkoaaGreatDoor
open Go.ChangeShapes Go.WideShapes Go.ChangeAt Go.RowKit
def ArgRow (k:IntKind)(w:World)(A:Option Addr)(len cap:Nat)(xs:List Nat):Prop :=
 Rd k w w.heap.size A len xs∧len≤cap∧cap≤maxLen ∧ ∀ x∈xs,(Lit.int k (x:Int)).wf=true
theorem YU {H:Type}{enc:TypeId×Value→H}{P:Program}{w:World}{base:Nat}{spare:Nat→Bool}{held:Bool}{t e:TypeId}{k:IntKind}(ht:P.underlying t=some (.slice e))(he:P.underlying e=some (.int k))(hc:P.cellsOf e=1)
  {A:Option Addr} {len cap:Nat} {d:DataW H} {p:List MemPlace} (h:DataW.Trod enc P w base spare held t (.slice A len cap) d p) (hk:0≤k.min:=by decide) :
  ∃ xs,ArgRow k w A len cap xs:=by
 obtain ⟨fuel,hf⟩:=h;rcases open_ints ht he hc hf with ⟨hcs,_⟩ | ⟨x,l,c,zs,hcs,_,hl,hm,hz,_,hcell,hwz⟩
 ·simp[Value.cells] at hcs
  obtain ⟨rfl,rfl,rfl⟩:=hcs;exact ⟨[],Rd.nil,Nat.le_refl _,by simp[maxLen],by simp⟩
 ·simp[Value.cells] at hcs
  obtain ⟨rfl,rfl,rfl⟩:=hcs;have hlz:len≤zs.length:=by rw[hz];split <;> omega
  have hnn : ∀ n∈zs,0≤n:=fun n hn=>by
   have h1:=hwz n hn;simp only[Lit.wf,Bool.and_eq_true,decide_eq_true_eq] at h1;omega
  refine ⟨(zs.take len).map Int.toNat,⟨by simp;omega,fun h0 => ?_⟩,hl,hm,fun y hy => ?_⟩
  ·obtain ⟨b,off,spot⟩:=x
   have hc0:=hcell 0 (by omega)
   have hspot:spot=none:=by simpa [Addr.add] using World.cell?_spot hc0
   subst hspot;refine ⟨b,off,rfl,World.block_lt_of_cell? w _ hc0,fun j y hy => ?_⟩
   rw[List.getElem?_map] at hy;obtain ⟨n,hn,rfl⟩:=Option.map_eq_some_iff.1 hy;rw[List.getElem?_take] at hn;split at hn
   ·rename_i hjl
    have hcj:=hcell j (by omega)
    rw[Kl] at hcj;rw[hcj,List.getD_eq_getElem?_getD,hn];have:=hnn n (List.mem_of_getElem? hn);simp only[Option.getD_some];rw[Int.toNat_of_nonneg this]
   ·cases hn
  ·obtain ⟨n,hn,rfl⟩:=List.mem_map.1 hy
   have hn':=List.mem_of_mem_take hn;rw[Int.toNat_of_nonneg (hnn n hn')];exact hwz n hn'
theorem ArgRow.byte {w:World}{A:Option Addr}{len cap:Nat}{xs:List Nat}(h:ArgRow .u8 w A len cap xs) : ∀ x∈xs,x < 256:=fun x hx=>by
 have h1:=h.2.2.2 x hx;simp only[Lit.wf,Bool.and_eq_true,decide_eq_true_eq] at h1;have:IntKind.u8.max=255:=by decide
 omega
theorem ArgRow.word {w:World}{A:Option Addr}{len cap:Nat}{xs:List Nat}(h:ArgRow .u32 w A len cap xs) : ∀ x∈xs,x < 4294967296:=fun x hx=>by
 have h1:=h.2.2.2 x hx;simp only[Lit.wf,Bool.and_eq_true,decide_eq_true_eq] at h1;have:IntKind.u32.max=4294967295:=by decide
 omega
end Go.Proofs.YtdgbealknnmkoaaGreatDoor
