/- Texts of one proof, put together by a program: each lemma is proved for all values of its variables, under the premises that it states. -/
import Derived.Test.YtdgbealknnmkoaaGreatDoorP4a736048
import Derived.Test.YtdgbealknnmkoaaGreatDoorP6de7f854
set_option linter.unusedVariables false
set_option linter.unusedSimpArgs false
namespace Go.Proofs.YtdgbealknnmkoaaGreatDoor
open Go.RowKit
theorem Own.setAt {k:IntKind}{e:TypeId}{w0 w:World}{g n c:Nat}{xs:List Nat}(h:Own k e w0 w (.slice (some ⟨g,0,none⟩) n c) xs)(i:Nat){z:Int}{y:Nat}(hz:z=(y:Int)) :
  Own k e w0 (w.setCell ⟨g,i,none⟩ (.int k z)) (.slice (some ⟨g,0,none⟩) n c) (xs.set i y):=by
 subst hz;rcases h.1.2 with ⟨hv,_⟩ | ⟨g',cap,cur,hv,hg,hh,hnc,hcm,hcs,ht⟩
 ·injection hv with hv;cases hv
 ·injection hv with h1 h2 h3
  injection h1 with h1;injection h1 with h1;subst h1 h2 h3;refine ⟨⟨by simp[cellsOf],.inr ⟨g,c,cur.setIfInBounds i (.int k (y:Int)),by rw[List.length_set],hg,?_,by rw[List.length_set];exact hnc,hcm,by simpa using hcs,?_⟩⟩,h.2.setCell hg _⟩
  ·simp[World.setCell,Array.getElem?_modify,hh]
  ·rw[List.length_set,Array.toList_setIfInBounds,List.take_set,ht]
   simp[cellsOf,List.map_set]
theorem Own.block {k:IntKind}{e:TypeId}{w0 w:World}{A:Option Addr}{n c:Nat}{xs:List Nat}(h:Own k e w0 w (.slice A n c) xs)(h0:0 < n) : ∃ g,A=some ⟨g,0,none⟩∧Mut k e w g xs:=by
 rcases h.1.2 with ⟨hv,_⟩ | ⟨g',cap,cur,hv,hg,hh,hnc,hcm,hcs,ht⟩
 ·injection hv with h1 h2 h3;omega
 ·injection hv with h1 h2 h3
  exact ⟨g',h1,cur,hh,by omega,by simpa using ht⟩
theorem Own.len' {k:IntKind}{e:TypeId}{w0 w:World}{A:Option Addr}{n c:Nat}{xs:List Nat}(h:Own k e w0 w (.slice A n c) xs):xs.length=n∧n≤c∧c≤9223372036854775807:=by
 obtain ⟨A',c',hv,_,h1,h2⟩:=h.form;injection hv with h3 h4 h5;omega
theorem Pd {d f cr:Nat}(hd:d < 4294967296)(hf:f < 4294967296)(hcr:cr < 4294967296) : ∃ p s:Nat,IntKind.u64.wrap ((d:Int)*(f:Int))=(p:Int)∧IntKind.u64.wrap ((cr:Int)+(p:Int))=(s:Int) ∧
  s=cr+d*f∧s < 18446744073709551616∧s / 4294967296 < 4294967296∧s % 4294967296 < 4294967296∧p < 18446744073709551616:=by
 have hb:=Ep hd hf;have e:((d*f:Nat):Int)=(d:Int)*(f:Int):=by simp
 refine ⟨d*f,cr+d*f,?_,?_,rfl,by omega,by omega,by omega,by omega⟩
 ·rw[←e,IntKind.wrap_u64];omega
 ·rw[IntKind.wrap_u64];omega
theorem QE {V P cr v K c d s:Nat}(h:V+P*cr=v*K+c)(hs:s=cr+d*K):(V+P*(s % 4294967296))+P*4294967296*(s / 4294967296)=(v+P*d)*K+c:=by
 have e:P*(s % 4294967296)+P*4294967296*(s / 4294967296)=P*s:=by rw[Nat.mul_assoc,←Nat.mul_add,Nat.mod_add_div]
 have e2:P*s=P*cr+P*d*K:=by rw[hs,Nat.mul_add,Nat.mul_assoc]
 rw[Nat.add_mul,Nat.add_assoc,e,e2];omega
theorem W0 (ds ms:List Nat)(k y:Nat)(hk:k < ms.length)(hl:ds.length=k):(ds++ms.drop k).set k y=(ds++[y])++ms.drop (k+1):=by
 rw[BJ ms k hk,List.set_append_right _ _ (by omega),hl,Nat.sub_self]
 simp
def Abh (e32:TypeId)(w0:World)(v n:Nat)(e:Ending)(w':World):Prop :=
 ∃ A m c ms,e = .returned (.slice A m c)∧Own .u32 e32 w0 w' (.slice A m c) ms∧W32 ms∧val ms=v∧m≤n+1
set_option maxHeartbeats 1000000 in
set_option maxRecDepth 100000 in
theorem G6 {w0:World}{A:Option Addr}{n c K C:Nat}{ms:List Nat}(w:World)(ho:Own .u32 97 w0 w (.slice A n c) ms)(hm:W32 ms)(hn:n≤1048576)(hK:K < 4294967296)(hC:C < 4294967296) :
  Calls Tryz.prog 172 #[.slice A n c,.int .u32 K,.int .u32 C] w (Abh 97 w0 (val ms*K+C) n):=by
 obtain ⟨hl,hnc,hcb⟩:=ho.len';have HL:=Lib.hid hl;have HM:=Lib.hid hm;clear hm hl;go_enter Tryz.func172,Tryz.ntmps172
 go_wp2
 go_loopw [7,14] (fun cv i wr => ∃ (k cr:Nat) (ds:List Nat),k≤n∧i = .int .i64 k∧cv = .int .u64 cr∧cr < 4294967296∧Hid (ds.length=k)∧Hid (W32 ds)∧Hid (val ds+4294967296 ^ k*cr=val (ms.take k)*K+C)∧Own .u32 97 w0 wr (.slice A n c) (ds++ms.drop k)) (fun _ i _=>(n - intOf i).toNat)
 case atStart=>exact ⟨0,C,[],by omega,rfl,rfl,hC,rfl,W32.nil,by simp[Hid,val],ho⟩
 case round =>
  obtain ⟨k,cr,ds,hk,rfl,rfl,hcr,hdl,hdw,HV,oR⟩:=hrel;clear ho;by_cases hlt:k < n
  ·obtain ⟨g,rfl,mu⟩:=oR.block (by omega)
   have hg1:k < (ds++ms.drop k).length:=by rw[List.length_append,List.length_drop,HL.out,hdl.out];omega
   have hc:=mu.cell hg1;have hf:=mu.frozen k;have e0:(ds++ms.drop k).getD k 0=ms.getD k 0:=by
    rw[BJ ms k (by rw[HL.out];omega),List.getD_eq_getElem?_getD,List.getElem?_append_right (by rw[hdl.out];omega),hdl.out,Nat.sub_self]
    rfl
   rw[e0] at hc;have hd:=HM.out.getD k;have HTS:=Lib.hid (Av ms k);have HS:=Lib.hid (fun y=>W0 ds ms k y (by rw[HL.out];omega) hdl.out)
   generalize ms.getD k 0=d at *;obtain ⟨p,s,e1,e2,es,hsb,hsq,hsm,hpb⟩:=Pd hd hK hcr;have HST:=Lib.hid (QE HV.out es);rw[←HTS.out] at HST;have HF:Hid (val (ds++[s % 4294967296])+4294967296 ^ (k+1)*(s / 4294967296)=val (ms.take (k+1))*K+C):=by
    unfold Hid;rw[BO,hdl.out,Nat.pow_succ];exact HST.out
   have i1:(0:Int)≤(k:Int):=by omega
   have i2:(k:Int) < (n:Int):=by omega
   have q1:(s:Int) % 4294967296=((s % 4294967296:Nat):Int):=by simp
   clear es mu e0 hg1 q1;go_wp2
   go_roundw
   case rel =>
    refine ⟨k+1,s / 4294967296,ds++[s % 4294967296],by omega,by go_num,by go_num,hsq,?_,hdw.out.append (W32.mk hsm W32.nil),HF,?_⟩
    ·unfold Hid;rw[List.length_append,hdl.out];rfl
    ·rw[←HS.out];exact oR.setAt k (by omega)
   case measure=>simp[intOf] <;> omega
  ·obtain rfl:k=n:=by omega
   rw[List.drop_of_length_le (by rw[HL.out];omega),List.append_nil] at oR
   have hv:=HV.out;rw[List.take_of_length_le (by rw[HL.out];omega)] at hv
   have HE:=Lib.hid hv;clear hv HV;generalize val ms*K+C=V at *;by_cases h0:cr=0
   ·subst h0
    have b0:(((0:Nat):Int) != 0)=false:=by decide
    go_wp2
    go_ret
    exact ⟨A,k,c,ds,rfl,oR,hdw.out,by have:=HE.out;simpa using this,by omega⟩
   ·have b0:(((cr:Nat):Int) != 0)=true:=by simp;omega
    have hcw:cr % 4294967296=cr:=Nat.mod_eq_of_lt hcr;have hdl2:=hdl.out;go_wp2_with (at_builtin;refine Aw Tryz.elemU32 Tryz.underlying22 (oR.alloc _) (Rd.one .u32 wr _ (y:=cr) (by omega)) rfl rfl rfl rfl (by omega) (by omega) ?_;intro v1 w1 o1 _ _)
    obtain ⟨A1,n1,c1,rfl,r1,_,_⟩:=o1.form';have hl1:=r1.len;go_ret
    refine ⟨A1,n1,c1,ds++[cr],rfl,o1,hdw.out.append (W32.mk hcr W32.nil),?_,?_⟩
    ·rw[BO,hdl.out];exact HE.out
    ·rw[←hl1,List.length_append,hdl.out];simp
end Go.Proofs.YtdgbealknnmkoaaGreatDoor
