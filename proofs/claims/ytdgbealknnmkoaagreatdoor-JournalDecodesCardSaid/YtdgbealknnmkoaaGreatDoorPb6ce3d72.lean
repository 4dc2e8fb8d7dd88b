/- Texts of one proof, put together by a program: each lemma is proved for all values of its variables, under the premises that it states. -/
import Derived.Deep.RegionHeld3
import Derived.Test.YtdgbealknnmkoaaGreatDoorP2d4812f5
set_option linter.unusedVariables false
set_option linter.unusedSimpArgs false
namespace Go.Proofs.YtdgbealknnmkoaaGreatDoor
def D8 (s:Nat):List Nat:=[s / 16777216 % 256,s / 65536 % 256,s / 256 % 256,s % 256]
def AX (kind:Nat)(body:List Nat):List Nat:=kind::(Ac body.length++body)
def Bs (kind:Nat)(body:List Nat):List Nat:=AX kind body++D8 (crc (AX kind body))
def frame (kind:Nat)(body:List Nat):List Nat×Int:=if body.length≤1048576 then (Bs kind body,0) else ([],10)
theorem UF (s:Nat) : ∀ x∈D8 s,x < 256:=by
 intro x hx;simp only[D8,List.mem_cons,List.not_mem_nil,or_false] at hx;omega
theorem Adt {xs:List Nat}(_h : ∀ x∈xs,x < 256):crc xs < 4294967296:=by unfold crc;omega
theorem EH {kind:Nat}{body:List Nat}(hk:kind < 256)(hb : ∀ x∈body,x < 256)(hl:body.length≤4611686018427387904) : ∀ x∈AX kind body,x < 256:=by
 intro x hx;unfold AX at hx;rcases List.mem_cons.1 hx with rfl | hx
 ·exact hk
 ·rcases List.mem_append.1 hx with hx | hx
  ·exact MJ hl x hx
  ·exact hb x hx
theorem Hu (kind:Nat)(body:List Nat)(h:body.length≤1048576):(AX kind body).length≤1048586:=by
 have:=AJ (n:=body.length) (by omega)
 simp only[AX,List.length_cons,List.length_append];omega
theorem P6 (xs:List Nat):crc xs < 4294967296:=by unfold crc;omega
def be (xs:List Nat):Nat:=xs.foldl (fun s c=>s*256+c) 0
theorem AaA (xs:List Nat)(c:Nat):be (xs++[c])=be xs*256+c:=by simp[be]
theorem Aa9 (s c k:Nat)(hk:k < 4)(hs:s < 256 ^ k)(hc:c < 256):IntKind.u32.wrap ((s:Int)*256)=((s*256:Nat):Int)∧bits .or .u32 ((s*256:Nat):Int) (c:Int)=((s*256+c:Nat):Int)∧s*256+c < 256 ^ (k+1):=by
 have h1:256 ^ k≤256 ^ 3:=Nat.pow_le_pow_right (by omega) (by omega)
 have h2:256 ^ (k+1)=256 ^ k*256:=Nat.pow_succ ..
 refine ⟨by rw[IntKind.wrap_u32];omega,?_,by omega⟩
 rw[u32_or_nat (s*256) c (by omega) (by omega),nat_join 8 (s*256) c (by omega) (by omega)]
theorem Ac1 (l:List Nat)(hl:l.length=4)(hb : ∀ x∈l,x < 256)(s:Nat)(hs:s < 4294967296):be l=s↔l=D8 s:=by
 match l,hl with
 | [a,b,c,d],_ =>
  have ha:=hb a (by simp)
  have hb1:=hb b (by simp)
  have hc:=hb c (by simp)
  have hd:=hb d (by simp)
  simp only[be,List.foldl_cons,List.foldl_nil,D8,List.cons.injEq,and_true];omega
def AP (xs:List Nat):Nat×List Nat×Nat×Nat :=
 if xs.length=0 then (0,[],0,3) else
 if (AZ (xs.drop 1)).2.2≠0 then (0,[],0,(AZ (xs.drop 1)).2.2) else
 if 1048576 < (AZ (xs.drop 1)).1 then (0,[],0,2) else
 if xs.length - (1+(AZ (xs.drop 1)).2.1) < (AZ (xs.drop 1)).1+4 then (0,[],0,3) else
 if (xs.drop (1+(AZ (xs.drop 1)).2.1+(AZ (xs.drop 1)).1)).take 4=D8 (crc (xs.take (1+(AZ (xs.drop 1)).2.1+(AZ (xs.drop 1)).1)))
 then (xs.getD 0 0,(xs.drop (1+(AZ (xs.drop 1)).2.1)).take (AZ (xs.drop 1)).1,1+(AZ (xs.drop 1)).2.1+(AZ (xs.drop 1)).1+4,0) else (0,[],0,4)
def Ac7 (e5:TypeId)(r:Nat×List Nat×Nat×Nat)(w:World)(e:Ending)(w':World):Prop :=
 ∃ v,e = .returned (.tuple #[.int .u8 (r.1:Int),v,.int .i64 (r.2.2.1:Int),.int .i64 (r.2.2.2:Int)])∧Own .u8 e5 w w' v r.2.1
theorem KG {xs:List Nat}(n:Nat)(hx : ∀ x∈xs,x < 256) : ∀ x∈xs.drop n,x < 256:=fun x h=>hx x (List.mem_of_mem_drop h)
theorem N9 {xs:List Nat}(n:Nat)(hx : ∀ x∈xs,x < 256) : ∀ x∈xs.take n,x < 256:=fun x h=>hx x (List.mem_of_mem_take h)
theorem Fx {fn:Func}{t u v x:Tmp}(h:fn.results = #[.tmp t,.tmp u,.tmp v,.tmp x])(tmps:Array Value)(P:Program)(w:World) :
  (results fn tmps).run P w = .ok (.tuple #[tmps.getD t undef,tmps.getD u undef,tmps.getD v undef,tmps.getD x undef]) w:=by simp[results,h]
theorem Ls {P:Program}{ops:Array Oper}{o:Oper}{a:Act}{K:Act→World→Prop}{Q:Exit→Act→World→Prop}{E:Prop}{k:IntKind}{e t:TypeId}{bytes:Nat}(hE:CX P k e bytes)(ht:P.underlying t=some (.slice e))
  {w0 w:World} {v:Value} {xs:List Nat} (hown:Own k e w0 w v xs) {A:Option Addr} {m c B:Nat} {ys:List Nat} (hr:Rd k w B A m ys)
  (hgd:o.guard=none) {s x:Operand} (ho:o.op = .call { callee := .builtin .append,args := #[s,x],argTypes := #[t,t] }) (hs:a.eval s=v) (hx:a.eval x = .slice A m c)
  (hlen:(xs.length+m)*bytes≤140737488355328) (hmax:xs.length+m≤9223372036854775807)
  (h : ∀ v' w',Own k e w0 w' v' (xs++ys)→w.grownBy w' v.ownBlock→(v'.ownBlock=v.ownBlock∨v'.ownBlock=some w.heap.size)→K (a.put o.dst v') w') :
  if Region.wanted o (yielded ops a.tmps)=true then Oper.wp P o a w K Q else E:=by
 have hw:Region.wanted o (yielded ops a.tmps)=true:=by simp[Region.wanted,hgd]
 rw[if_pos hw];exact DI hE ht hown hr ho hs hx hlen hmax h
theorem Jy (s:Nat):(D8 s).length=4:=rfl
theorem FZ (kind:Nat)(body:List Nat):(Bs kind body).length=1+(Ac body.length).length+body.length+4:=by
 simp only[Bs,AX,List.length_append,List.length_cons,Jy];omega
theorem Ju (kind:Nat)(m:Nat)(r:List Nat)(hm:m≤1048576) :
  AP (kind::(Ac m++r))=if r.length < m+4 then (0,[],0,3) else
   if (r.drop m).take 4=D8 (crc (kind::(Ac m++r.take m))) then (kind,r.take m,1+(Ac m).length+m+4,0) else (0,[],0,4):=by
 unfold AP;rw[if_neg (by simp),List.drop_one,List.tail_cons,Dd m r (by omega)]
 simp only[ne_eq,not_true_eq_false,if_false];rw[if_neg (by omega)]
 have e1:(kind::(Ac m++r)).length - (1+(Ac m).length)=r.length:=by simp only[List.length_cons,List.length_append];omega
 have e2:(kind::(Ac m++r)).drop (1+(Ac m).length+m)=r.drop m:=by
  rw[show 1+(Ac m).length+m=((Ac m).length+m)+1 by omega,List.drop_succ_cons,List.drop_append,List.drop_of_length_le (by omega),List.nil_append]
  congr 1;omega
 have e3:(kind::(Ac m++r)).take (1+(Ac m).length+m)=kind::(Ac m++r.take m):=by
  rw[show 1+(Ac m).length+m=((Ac m).length+m)+1 by omega,List.take_succ_cons,List.take_append,List.take_of_length_le (by omega)]
  congr 3;omega
 have e4:(kind::(Ac m++r)).drop (1+(Ac m).length)=r:=by
  rw[Nat.add_comm,List.drop_succ_cons,List.drop_append,List.drop_of_length_le (by omega),List.nil_append,Nat.sub_self,List.drop_zero]
 rw[e1,e2,e3,e4]
 rfl
theorem O5 (kind:Nat)(body rest:List Nat)(h:body.length≤1048576):AP (Bs kind body++rest)=(kind,body,(Bs kind body).length,0):=by
 have e:Bs kind body++rest=kind::(Ac body.length++(body++D8 (crc (AX kind body))++rest)):=by simp[Bs,AX]
 rw[e,Ju kind body.length _ h,FZ];rw[if_neg (by simp only[List.length_append,Jy];omega)]
 have e2:(body++D8 (crc (AX kind body))++rest).take body.length=body:=by rw[List.append_assoc,List.take_left]
 have e3:((body++D8 (crc (AX kind body))++rest).drop body.length).take 4=D8 (crc (AX kind body)):=by
  rw[List.append_assoc,List.drop_left];exact List.take_left (l₁:=D8 _)
 rw[e2,e3];exact if_pos rfl
theorem PQ (kind:Nat)(body:List Nat)(i:Nat)(h:body.length≤1048576)(hi:i < (Bs kind body).length):AP ((Bs kind body).take i)=(0,[],0,3):=by
 rw[FZ] at hi;cases i with
 | zero=>simp[AP]
 | succ i =>
  have e:(Bs kind body).take (i+1)=kind::((Ac body.length++(body++D8 (crc (AX kind body)))).take i):=by simp[Bs,AX]
  rw[e];by_cases hc:i < (Ac body.length).length
  ·have e2:(Ac body.length++(body++D8 (crc (AX kind body)))).take i=(Ac body.length).take i:=by
    rw[List.take_append,show i - (Ac body.length).length=0 by omega,List.take_zero,List.append_nil]
   rw[e2];unfold AP;rw[if_neg (by simp),List.drop_one,List.tail_cons,Yw _ _ (by omega) hc]
   simp
  ·rw[List.take_append,List.take_of_length_le (l:=Ac body.length) (by omega),Ju kind body.length _ h,if_pos]
   simp only[List.length_take,List.length_append,Jy];omega
end Go.Proofs.YtdgbealknnmkoaaGreatDoor
