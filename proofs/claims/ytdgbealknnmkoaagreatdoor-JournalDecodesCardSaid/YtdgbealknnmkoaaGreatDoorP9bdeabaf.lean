/- Texts of one proof, put together by a program: each lemma is proved for all values of its variables, under the premises that it states. -/
import Derived.Lib.IndexBytes
import Derived.Test.YtdgbealknnmkoaaGreatDoorP10c54fbd
set_option linter.unusedVariables false
set_option linter.unusedSimpArgs false
namespace Go.Proofs.YtdgbealknnmkoaaGreatDoor
open Go.RowKit
theorem CL (s:ByteArray)(k:Nat)(h:k < s.size):(bytesOf s).getD k 0=(s[k]).toNat:=by
 unfold bytesOf;rw[List.getD_eq_getElem?_getD,List.getElem?_map,List.getElem?_eq_getElem (by simpa using h)]
 rfl
theorem Et (s:ByteArray)(k:Nat):bytesOf (s.extract k s.size)=(bytesOf s).drop k:=by
 unfold bytesOf;rw[Lib.extract_to_end,List.map_drop]
theorem EM (s:ByteArray)(k:Nat):(s.extract k s.size).size=s.size - k:=by
 rw[←Aq,Et,List.length_drop,Aq]
theorem TA {v V T N D R S:Nat}{l:List Nat}(hN:N≤l.length)(h:V*10 ^ l.length+nd l=S)(hv:v=V*10 ^ N+nd (l.take N)):v*10 ^ (l.length - N)+nd (l.drop N)=S:=by
 have e:=K7 (l.take N) (l.drop N);rw[List.take_append_drop,List.length_drop] at e;have e2:10 ^ l.length=10 ^ N*10 ^ (l.length - N):=by rw[←Nat.pow_add];congr 1;omega
 rw[e,e2] at h;rw[hv,←h,Nat.add_mul,Nat.mul_assoc,Nat.add_assoc]
theorem T8 {k:Nat}(h:k≤9):10 ^ k≤1000000000:=Nat.pow_le_pow_right (n:=10) (by omega) h
theorem T9 {k:Nat}(h:k≤8):10 ^ k≤100000000:=Nat.pow_le_pow_right (n:=10) (by omega) h
def Abo:Value→Nat
 | .string t=>t.size
 | _=>0
set_option maxHeartbeats 2000000 in
set_option maxRecDepth 100000 in
theorem FR (s : ByteArray) (w : World) (hs : s.size ≤ 1000) (hd : okD (bytesOf s)) :
  Calls Tryz.prog 140 #[.string s] w (Abh 97 w (nd (bytesOf s)) s.size):=by
 have HD:=Lib.hid hd;clear hd;go_enter Tryz.func140,Tryz.ntmps140
 go_wp2
 go_loopw [0,3] (fun tv mv wr => ∃ (t:ByteArray) (A:Option Addr) (m c:Nat) (ms:List Nat),tv = .string t∧mv = .slice A m c∧t.size+m≤s.size∧Own .u32 97 w wr (.slice A m c) ms∧Hid (okD (bytesOf t))∧Hid (W32 ms)∧Hid (val ms*10 ^ t.size+nd (bytesOf t)=nd (bytesOf s))) (fun tv _ _=>Abo tv)
 case atStart=>exact ⟨s,none,0,0,[],rfl,rfl,by omega,Own.nil (Below.refl _ _),HD,W32.nil,by simp[Hid,val]⟩
 case round =>
  obtain ⟨t,A,m,c,ms,rfl,rfl,hm,oR,hok,hw,HV⟩:=hrel;clear HD;obtain ⟨wo,rfl⟩ : ∃ wo:World,wo=wr:=⟨_,rfl⟩;by_cases h0:t.size=0
  ·have hv:=HV.out
   rw[h0,List.eq_nil_of_length_eq_zero (l:=bytesOf t) (by rw[Aq];exact h0),AbO] at hv
   have HE:=Lib.hid hv;generalize nd (bytesOf s)=S at *;clear hv HV;have hd0:decide ((0:Int) < (t.size:Int))=false:=decide_eq_false (by omega)
   have hd1:decide (0 < t.size)=false:=decide_eq_false (by omega)
   have HZ:=Lib.hid h0;clear h0;go_wp2
   go_ret
   exact ⟨A,m,c,ms,rfl,oR,hw.out,by simpa using HE.out,by omega⟩
  ·have hd0 : decide ((0 : Int) < (t.size : Int)) = true := by simp; omega
   have hd1:decide (0 < t.size)=true:=by simp;omega
   have hpos:0 < t.size:=by omega
   clear h0;generalize hS:nd (bytesOf s)=S at *;clear hS;by_cases h9:t.size % 9=0
   ·have hb : (((t.size : Int) % 9) == 0) = true := by simp; omega
    have h9t:9≤t.size:=by omega
    clear h9;go_wp2_with fail
    go_loop [5,6,17] (fun a b i => ∃ k:Nat,k≤9∧i = .int .i64 k∧a = .int .u32 ((10 ^ k:Nat):Int)∧b = .int .u32 ((nd ((bytesOf t).take k):Nat):Int)) (fun _ _ i=>(9 - intOf i).toNat)
    case atStart=>exact ⟨0,by omega,rfl,rfl,rfl⟩
    case round =>
     obtain ⟨k,hk,rfl,rfl,rfl⟩:=hrel;by_cases hlt:k < 9
     ·have hkt:k < t.size:=by omega
      have hc:=hok.out.getD (k:=k) (by rw[Aq];exact hkt)
      have HS:=Lib.hid (JE (bytesOf t) k (by rw[Aq];exact hkt))
      have hvl:=QB k ((bytesOf t).take k) (by rw[List.length_take,Aq];omega) (hok.out.take k)
      have hp8:=T9 (k:=k) (by omega)
      rw[CL t k hkt] at hc HS;have HP:=Lib.hid (Nat.pow_succ 10 k);obtain ⟨x,hx⟩ : ∃ x,x=nd ((bytesOf t).take k):=⟨_,rfl⟩;obtain ⟨p,hp⟩ : ∃ p,p=10 ^ k:=⟨_,rfl⟩;rw[←hx] at hvl HS;rw[←hp] at hp8 HP hvl;rw[←hx,←hp];have hx8:x < 100000000:=by omega
      have i1:(0:Int)≤(k:Int):=by omega
      have i2:(k:Int) < (t.size:Int):=by omega
      have hdk:decide ((k:Int) < (9:Int))=true:=by simp;omega
      clear hvl hx hp HV;go_wp2
      go_round
      case rel=>exact ⟨k+1,by omega,by go_num,by rw[HP.out];go_num,by rw[HS.out];congr 1;omega⟩
      case measure=>simp[intOf] <;> omega
     ·obtain rfl:9=k:=by omega
      have hvl:=QB 9 ((bytesOf t).take 9) (by rw[List.length_take,Aq];omega) (hok.out.take 9)
      have hp9:=T8 (k:=9) (by omega)
      obtain ⟨x,hx⟩ : ∃ x,x=nd ((bytesOf t).take 9):=⟨_,rfl⟩;obtain ⟨p,hp⟩ : ∃ p,p=10 ^ 9:=⟨_,rfl⟩;rw[←hx] at hvl;rw[←hp] at hp9 hvl;rw[←hx,←hp];have HX:=Lib.hid hx;have HP:=Lib.hid hp;clear hx hp;have hdk:decide ((9:Int) < (9:Int))=false:=by simp
      have HMA:=Lib.hid (G6 (K:=p) (C:=x) wo oR hw.out (by omega) (by omega) (by omega))
      have i1:(0:Int)≤(9:Int):=by omega
      have i2:(9:Int)≤(t.size:Int):=by omega
      go_wp2_with fail
      refine HMA.out.mono ?_;rintro e w1 ⟨A1,m1,c1,ms1,rfl,o1,hw1,hv1,hm1⟩;have HV1:=Lib.hid hv1;clear hv1 HMA oR;go_wp2
      go_roundw
      case rel =>
       refine ⟨t.extract 9 t.size,A1,m1,c1,ms1,rfl,rfl,?_,o1,?_,hw1,?_⟩
       ·rw[EM];omega
       ·rw[Et];exact hok.out.drop _
       ·have hv:=HV.out
        have hv1:=HV1.out;rw[HX.out,HP.out] at hv1;rw[←Aq] at hv;have:=TA (v:=val ms1) (N:=9) (l:=bytesOf t) (T:=0) (D:=0) (R:=0) (by rw[Aq];omega) hv hv1
        rw[Aq] at this;unfold Hid;rw[EM,Et];exact this
      case measure=>simp only[Abo,EM];omega
   ·obtain ⟨N, hN⟩ : ∃ N, N = t.size % 9 := ⟨_, rfl⟩
    have hb:((N:Int) == 0)=false:=by simp;omega
    have hN9:N≤8:=by omega
    have hNt:N≤t.size:=by omega
    have hN0:0 < N:=by omega
    have eN:(t.size:Int) % 9=(N:Int):=by omega
    clear hN h9;go_wp2_with fail
    go_loop [5,6,17] (fun a b i => ∃ k:Nat,k≤N∧i = .int .i64 k∧a = .int .u32 ((10 ^ k:Nat):Int)∧b = .int .u32 ((nd ((bytesOf t).take k):Nat):Int)) (fun _ _ i=>(N - intOf i).toNat)
    case atStart=>exact ⟨0,by omega,rfl,rfl,rfl⟩
    case round =>
     obtain ⟨k,hk,rfl,rfl,rfl⟩:=hrel;by_cases hlt:k < N
     ·have hkt:k < t.size:=by omega
      have hc:=hok.out.getD (k:=k) (by rw[Aq];exact hkt)
      have HS:=Lib.hid (JE (bytesOf t) k (by rw[Aq];exact hkt))
      have hvl:=QB k ((bytesOf t).take k) (by rw[List.length_take,Aq];omega) (hok.out.take k)
      have hp8:=T9 (k:=k) (by omega)
      rw[CL t k hkt] at hc HS;have HP:=Lib.hid (Nat.pow_succ 10 k);obtain ⟨x,hx⟩ : ∃ x,x=nd ((bytesOf t).take k):=⟨_,rfl⟩;obtain ⟨p,hp⟩ : ∃ p,p=10 ^ k:=⟨_,rfl⟩;rw[←hx] at hvl HS;rw[←hp] at hp8 HP hvl;rw[←hx,←hp];have hx8:x < 100000000:=by omega
      have i1:(0:Int)≤(k:Int):=by omega
      have i2:(k:Int) < (t.size:Int):=by omega
      have hdk:decide ((k:Int) < (N:Int))=true:=by simp;omega
      clear hvl hx hp HV;go_wp2
      go_round
      case rel=>exact ⟨k+1,by omega,by go_num,by rw[HP.out];go_num,by rw[HS.out];congr 1;omega⟩
      case measure=>simp[intOf] <;> omega
     ·obtain rfl:N=k:=by omega
      have hvl:=QB N ((bytesOf t).take N) (by rw[List.length_take,Aq];omega) (hok.out.take N)
      have hp9:=T8 (k:=N) (by omega)
      obtain ⟨x,hx⟩ : ∃ x,x=nd ((bytesOf t).take N):=⟨_,rfl⟩;obtain ⟨p,hp⟩ : ∃ p,p=10 ^ N:=⟨_,rfl⟩;rw[←hx] at hvl;rw[←hp] at hp9 hvl;rw[←hx,←hp];have HX:=Lib.hid hx;have HP:=Lib.hid hp;clear hx hp;have hdk:decide ((N:Int) < (N:Int))=false:=by simp
      have HMA:=Lib.hid (G6 (K:=p) (C:=x) wo oR hw.out (by omega) (by omega) (by omega))
      have i1:(0:Int)≤(N:Int):=by omega
      have i2:(N:Int)≤(t.size:Int):=by omega
      go_wp2_with fail
      refine HMA.out.mono ?_;rintro e w1 ⟨A1,m1,c1,ms1,rfl,o1,hw1,hv1,hm1⟩;have HV1:=Lib.hid hv1;clear hv1 HMA oR;go_wp2
      go_roundw
      case rel =>
       refine ⟨t.extract N t.size,A1,m1,c1,ms1,rfl,rfl,?_,o1,?_,hw1,?_⟩
       ·rw[EM];omega
       ·rw[Et];exact hok.out.drop _
       ·have hv:=HV.out
        have hv1:=HV1.out;rw[HX.out,HP.out] at hv1;rw[←Aq] at hv;have:=TA (v:=val ms1) (N:=N) (l:=bytesOf t) (T:=0) (D:=0) (R:=0) (by rw[Aq];omega) hv hv1
        rw[Aq] at this;unfold Hid;rw[EM,Et];exact this
      case measure=>simp only[Abo,EM];omega
end Go.Proofs.YtdgbealknnmkoaaGreatDoor
