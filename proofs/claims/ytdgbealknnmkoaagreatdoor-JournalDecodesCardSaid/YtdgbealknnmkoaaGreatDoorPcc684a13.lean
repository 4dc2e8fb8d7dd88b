/- Texts of one proof, put together by a program: each lemma is proved for all values of its variables, under the premises that it states. -/
import Derived.Deep.CutBlock
import Derived.Deep.DeepCutAuto
import Derived.Test.YtdgbealknnmkoaaGreatDoorP4a736048
set_option linter.unusedVariables false
set_option linter.unusedSimpArgs false
namespace Go.Proofs.YtdgbealknnmkoaaGreatDoor
open Go.RowKit
def Jp (e32:TypeId)(w:World)(g:Nat)(pre post:List Nat)(n U V:Nat)(e:Ending)(w':World):Prop :=
 ∃ rs,e = .returned (.int .u32 ((U / V:Nat):Int))∧rs.length=n+1∧W32 rs∧val rs=U % V∧Mut .u32 e32 w' g (pre++rs++post)∧w.grownBy w' (some g)∧w'.heap.size=w.heap.size
theorem L7 {pre mid post:List Nat}{j i:Nat}(hj:pre.length=j)(hi:i < mid.length):(pre++mid++post).getD (j+i) 0=mid.getD i 0:=by
 subst hj;rw[List.getD_eq_getElem?_getD,List.append_assoc,List.getElem?_append_right (by omega),Nat.add_sub_cancel_left,List.getElem?_append_left hi,←List.getD_eq_getElem?_getD]
theorem Pf {pre mid post:List Nat}{j i:Nat}(y:Nat)(hj:pre.length=j)(hi:i < mid.length):(pre++mid++post).set (j+i) y=pre++mid.set i y++post:=by
 subst hj;rw[List.append_assoc,List.set_append_right _ _ (by omega),Nat.add_sub_cancel_left,List.set_append_left _ _ hi,←List.append_assoc]
theorem Pg {pre mid post:List Nat}{j i:Nat}(hj:pre.length=j)(hi:i < mid.length):j+i < (pre++mid++post).length:=by
 simp only[List.length_append];omega
theorem AcW {us vs:List Nat}{n:Nat}(hul:us.length=n+1)(hvl:vs.length=n)(hn:2≤n)(hu:W32 us)(hv:W32 vs)(hnrm:2147483648≤vs.getD (n - 1) 0)(hlt:val us < val vs*4294967296) :
  Kn (4294967296 ^ (n - 2)) (val (vs.take (n - 2))) (val (us.take (n - 2))) (vs.getD (n - 2) 0) (vs.getD (n - 1) 0) (us.getD (n - 2) 0) (us.getD (n - 1) 0) (us.getD n 0) (val vs) (val us):=by
 have hvt:=BP (hv.take (n - 2));have hut:=BP (hu.take (n - 2));rw[List.length_take,Nat.min_eq_left (by omega)] at hvt hut
 have hp1:4294967296 ^ (n - 1)=4294967296 ^ (n - 2)*4294967296:=by rw[show n - 1=(n - 2)+1 by omega,Nat.pow_succ]
 have hp2:4294967296 ^ n=4294967296 ^ (n - 2)*4294967296*4294967296:=by
  rw[←hp1,←Nat.pow_succ];congr 1;omega
 refine ⟨hvt,hut,hv.getD _,hv.getD _,hnrm,hu.getD _,hu.getD _,?_,?_,hlt⟩
 ·have e1:=Av vs (n - 2)
  have e2:=Av vs (n - 1);rw[show n - 2+1=n - 1 by omega] at e1
  rw[show n - 1+1=n by omega,List.take_of_length_le (by omega)] at e2
  rw[e2,e1,hp1,Nat.mul_add,Nat.mul_assoc,Nat.add_assoc]
 ·have e1:=Av us (n - 2)
  have e2:=Av us (n - 1);have e3:=Av us n;rw[show n - 2+1=n - 1 by omega] at e1
  rw[show n - 1+1=n by omega] at e2
  rw[List.take_of_length_le (by omega)] at e3
  rw[e3,e2,e1,hp1,hp2,Nat.mul_add,Nat.mul_add,Nat.mul_add,Nat.mul_assoc,Nat.mul_assoc,Nat.mul_assoc,Nat.add_assoc,Nat.add_assoc]
set_option maxHeartbeats 4000000 in
set_option maxRecDepth 100000 in
theorem Rn {A : Option Addr} {g j n c c' : Nat} {pre us post vs : List Nat} (w : World) (hM : Mut .u32 97 w g (pre ++ us ++ post)) (hj : pre.length = j) (hul : us.length = n + 1) (hrv : Rd .u32 w g A n vs) (hu : W32 us) (hv : W32 vs) (hn : 2 ≤ n) (hnm : j + n ≤ 1099511627776)
  (hnrm:2147483648≤vs.getD (n - 1) 0) (hlt:val us < val vs*4294967296) :
  Calls Tryz.prog 221 #[.slice (some ⟨g,j,none⟩) (n+1) c,.slice A n c'] w (Jp 97 w g pre post n (val us) (val vs)):=by
 have hkn:=AcW hul hrv.len hn hu hv hnrm hlt;have HVL:=Lib.hid hrv.len;have HU:=Lib.hid hu;have HV:=Lib.hid hv;have HJ:=Lib.hid hj;have HUL:=Lib.hid hul;have cu : ∀ i,i < n+1→w.cell? ⟨g,j+i,none⟩=some (.int .u32 ((us.getD i 0:Nat):Int)):=fun i hi=>by
  have:=hM.cell (Pg (post:=post) (mid:=us) HJ.out (by rw[HUL.out];exact hi))
  rwa [L7 HJ.out (by rw[HUL.out];exact hi)] at this
 obtain ⟨bv,ov,rfl,hbv,_⟩:=hrv.at_ (j:=0) (by omega)
 have cv : ∀ i,i < n→w.cell? ⟨bv,ov+i,none⟩=some (.int .u32 ((vs.getD i 0:Nat):Int)):=fun i hi=>by
  obtain ⟨b,off,e,_,hcj⟩:=hrv.at_ hi;injection e with e;injection e with e1 e2;subst e1 e2;exact hcj
 have ku0:=cu n (by omega)
 have ku1:=cu (n - 1) (by omega)
 have ku2:=cu (n - 2) (by omega)
 have kv1:=cv (n - 1) (by omega)
 have kv2:=cv (n - 2) (by omega)
 have lu0:=hu.getD n;have lu1:=hu.getD (n - 1);have lu2:=hu.getD (n - 2);have lv1:=hv.getD (n - 1);have lv2:=hv.getD (n - 2);generalize us.getD n 0=u0 at *;generalize us.getD (n - 1) 0=u1 at *;generalize us.getD (n - 2) 0=u2 at *;generalize vs.getD (n - 1) 0=v1 at *;generalize vs.getD (n - 2) 0=v2 at *;have HK:=Lib.hid hkn;have htop:=Fq u1 u0 lu1 lu0;obtain ⟨top,htp⟩ : ∃ top,top=u1+4294967296*u0:=⟨_,rfl⟩;rw[←htp] at htop;have hq0:(top:Int) / (v1:Int)=((top / v1:Nat):Int):=by simp
 have hr0:(top:Int) % (v1:Int)=((top % v1:Nat):Int):=by simp
 have hmod:top % v1 < v1:=Nat.mod_lt _ (by omega)
 have HDM:=Lib.hid (Nat.div_add_mod top v1);have HF:=Lib.hid hkn.first;rw[←htp] at HF;have HTP:=Lib.hid htp;have hv1i:(1:Int)≤(v1:Int):=by omega
 have htb:top≤18446744073709551615:=by omega
 have i1:(0:Int)≤(n:Int):=by omega
 have i2:(n:Int) < (n:Int)+1:=by omega
 have i3:(0:Int)≤(n:Int) - 1:=by omega
 have i4:(n:Int) - 1 < (n:Int)+1:=by omega
 have i5:(n:Int) - 1 < (n:Int):=by omega
 have i6:((n:Int) - 1).toNat=n - 1:=by omega
 have i7:IntKind.i64.wrap ((n:Int) - 1)=(n:Int) - 1:=IntWalk.i64_in _ (by omega)
 clear cu cv hkn htp hj hul hu hv;have hg0b:top / v1≤18446744073709551615:=Nat.le_trans (Nat.div_le_self _ _) htb;generalize top / v1=g0 at *;have hg0w:IntKind.u64.wrap (g0:Int)=(g0:Int):=IntWalk.u64_in _ (by omega)
 generalize top % v1=r0 at *;go_enter Tryz.func221,Tryz.ntmps221
 go_wp2
 go_quiet (fail)
 go_wp2
 go_quiet (fail)
 go_upto_block 0 with (fail)
 go_cut [7,8] (fun gv rv wx => ∃ gs rest:Nat,gv = .int .u64 gs∧gs < 4294967296∧Hid (val us / val vs≤gs∧gs≤val us / val vs+1) ∧ ∃ q,Hid (wx=w.drewN q))
 case first =>
  go_wp2
  go_loopw [7,8] (fun gv rv wr => ∃ gs rest q:Nat,gv = .int .u64 gs∧rv = .int .u64 rest∧gs≤18446744073709551615∧rest < 4294967296∧Hid (gs*v1+rest=u1+4294967296*u0)∧Hid (val us / val vs≤gs)∧Hid (wr=w.drewN q)) (fun gv _ _=>(intOf gv).toNat)
  case atStart=>exact ⟨g0,r0,_,rfl,congrArg _ hr0,hg0b,by omega,by unfold Hid;rw[Nat.mul_comm,HDM.out,HTP.out],HF.out,by first | exact rfl | exact World.drewN_drewN ..⟩
  case round =>
   obtain ⟨gs,rest,q,rfl,rfl,hgsb,hrest,HE,HQ,hw⟩:=hrel;have hw':=hw.out;subst hw';clear hw hq0 hr0 htop hg0w;have n2a:(0:Int)≤(n:Int) - 2:=by omega
   have n2b:(n:Int) - 2 < (n:Int):=by omega
   have n2c:(n:Int) - 2 < (n:Int)+1:=by omega
   have n2d:((n:Int) - 2).toNat=n - 2:=by omega
   have n2e:IntKind.i64.wrap ((n:Int) - 2)=(n:Int) - 2:=IntWalk.i64_in _ (by omega)
   have tail : ∀ (hc:4294967296≤gs∨u2+4294967296*rest < gs*v2),(val us / val vs≤gs - 1∧1≤gs):=fun hc=>HK.out.more HQ.out HE.out hc
   have HTL:=Lib.hid tail;clear tail;have down:1≤gs→(gs - 1)*v1+(rest+v1)=u1+4294967296*u0:=fun h=>by
    have:=HE.out;obtain ⟨z,rfl⟩ : ∃ z,gs=z+1:=⟨gs - 1,by omega⟩
    rw[Nat.succ_mul] at this;rw[Nat.add_sub_cancel];omega
   have HDN:=Lib.hid down;clear down;by_cases hbig:4294967296≤gs
   ·have hd1:decide ((4294967296:Int)≤(gs:Int))=true:=by simp;omega
    obtain ⟨hqn,h1⟩:=HTL.out (.inl hbig);have HQN:=Lib.hid hqn;have HDE:=Lib.hid (HDN.out h1);clear hqn;by_cases hov:4294967296≤rest+v1
    ·have hd2:decide ((4294967296:Int)≤(rest:Int)+(v1:Int))=true:=by simp;omega
     obtain ⟨hb1,hb2⟩:=HK.out.brk HDE.out hov;have hnear:=HK.out.near HDE.out hb1 hb2;have HN:=Lib.hid hnear;clear hnear hb2;go_wp2
     go_quiet (fail)
     go_wp2
     go_meet
     exact ⟨gs - 1,0,by go_num,hb1,⟨HQN.out,HN.out⟩,_,by first | exact rfl | exact World.drewN_drewN ..⟩
    ·have hd2:decide ((4294967296:Int)≤(rest:Int)+(v1:Int))=false:=by simp;omega
     go_wp2
     go_quiet (fail)
     go_wp2
     go_roundw
     case rel=>exact ⟨gs - 1,rest+v1,_,by go_num,by go_num,by omega,by omega,HDE,HQN,by first | exact rfl | exact World.drewN_drewN ..⟩
     case measure=>simp[intOf] <;> omega
   ·have hd1:decide ((4294967296:Int)≤(gs:Int))=false:=by simp;omega
    have hpb:=Ep (d:=gs) (f:=v2) (by omega) lv2
    obtain ⟨p,hp⟩ : ∃ p,p=gs*v2:=⟨_,rfl⟩;have e1:IntKind.u64.wrap ((gs:Int)*(v2:Int))=(p:Int):=by
     have e:((gs*v2:Nat):Int)=(gs:Int)*(v2:Int):=by simp
     rw[←e,hp,IntKind.wrap_u64];omega
    have e2:=Fq u2 rest lu2 hrest;have e3:IntKind.u64.wrap ((rest:Int)*4294967296)=(rest:Int)*4294967296:=IntWalk.u64_in _ (by omega)
    obtain ⟨t,ht⟩ : ∃ t,t=u2+4294967296*rest:=⟨_,rfl⟩;rw[←ht] at e2;have HP:=Lib.hid hp;have HT:=Lib.hid ht;by_cases hcmp:t < p
    ·have hd3:decide ((t:Int) < (p:Int))=true:=by simp;omega
     obtain ⟨hqn,h1⟩:=HTL.out (.inr (by rw[←ht,←hp];exact hcmp))
     have HQN:=Lib.hid hqn;have HDE:=Lib.hid (HDN.out h1);clear hqn hp ht hpb;by_cases hov:4294967296≤rest+v1
     ·have hd2:decide ((4294967296:Int)≤(rest:Int)+(v1:Int))=true:=by simp;omega
      obtain ⟨hb1,hb2⟩:=HK.out.brk HDE.out hov;have hnear:=HK.out.near HDE.out hb1 hb2;have HN:=Lib.hid hnear;clear hnear hb2;go_wp2
      go_quiet (fail)
      go_wp2
      go_meet
      exact ⟨gs - 1,0,by go_num,hb1,⟨HQN.out,HN.out⟩,_,by first | exact rfl | exact World.drewN_drewN ..⟩
     ·have hd2:decide ((4294967296:Int)≤(rest:Int)+(v1:Int))=false:=by simp;omega
      go_wp2
      go_quiet (fail)
      go_wp2
      go_roundw
      case rel=>exact ⟨gs - 1,rest+v1,_,by go_num,by go_num,by omega,by omega,HDE,HQN,by first | exact rfl | exact World.drewN_drewN ..⟩
      case measure=>simp[intOf] <;> omega
    ·have hd3:decide ((t:Int) < (p:Int))=false:=by simp;omega
     have hnear:=HK.out.near HE.out (by omega) (by rw[←ht,←hp];omega)
     have HN:=Lib.hid hnear;clear hnear hp ht hpb;go_wp2
     go_quiet (fail)
     go_wp2
     go_meet
     exact ⟨gs,0,rfl,by omega,⟨HQ.out,HN.out⟩,_,by first | exact rfl | exact World.drewN_drewN ..⟩
 case rest =>
  obtain ⟨gs,_,rfl,hgs,HQ2,q,hw⟩:=hcut;have hw':=hw.out;subst hw';clear hw hq0 hr0 htop hg0w htb hmod hg0b;have hvlt:=BP HV.out;rw[HVL.out] at hvlt;have hult:=BP HU.out;generalize hW0:w.drewN q=w0 at *;have hgr0:w.grownBy w0 (some g):=by rw[←hW0];exact ⟨rfl,rfl,rfl,Nat.le_refl _,fun _ _ _=>rfl⟩
  have hM0:Mut .u32 97 w0 g (pre++us++post):=by rw[←hW0];exact hM.drewN q
  have hrv0:Rd .u32 w0 g (some ⟨bv,ov,none⟩) n vs:=by rw[←hW0];exact hrv.drewN q
  have hsz0:Hid (w0.heap.size=w.heap.size):=by rw[←hW0];rfl
  clear hW0 hM hrv ku0 ku1 ku2 kv1 kv2;go_wp2
  go_loopw [9,10,85] (fun cv bv' i wr => ∃ (k cr br:Nat) (ds:List Nat),k≤n∧i = .int .i64 k∧cv = .int .u64 cr∧bv' = .int .i64 br∧cr < 4294967296∧br≤1∧Hid (ds.length=k)∧Hid (W32 ds)∧Hid (val (us.take k)+4294967296 ^ k*(br+cr)=val ds+gs*val (vs.take k))∧Mut .u32 97 wr g (pre++(ds++us.drop k)++post)∧Rd .u32 wr g (some ⟨bv,ov,none⟩) n vs∧w.grownBy wr (some g)∧Hid (wr.heap.size=w.heap.size)) (fun _ _ i _=>n - (intOf i).toNat)
  case atStart=>exact ⟨0,0,0,[],by omega,rfl,rfl,rfl,by omega,by omega,rfl,W32.nil,by simp[val,Hid],hM0,hrv0,hgr0,hsz0⟩
  case round =>
   obtain ⟨k,cr,br,ds,hk,rfl,rfl,rfl,hcr,hbr,hdl,hdw,HE,hMr,hrr,hgr,hsz⟩:=hrel;clear hM0 hrv0 hgr0 hsz0;have hml:(ds++us.drop k).length=n+1:=by rw[List.length_append,List.length_drop,hdl.out,HUL.out];omega
   have hmg:(ds++us.drop k).getD k 0=us.getD k 0:=by
    rw[List.getD_eq_getElem?_getD,List.getElem?_append_right (by rw[hdl.out];omega),hdl.out,Nat.sub_self,List.getElem?_drop,Nat.add_zero,←List.getD_eq_getElem?_getD]
   have hms : ∀ y,(ds++us.drop k).set k y=(ds++[y])++us.drop (k+1):=fun y=>by
    rw[List.set_append_right _ _ (by rw[hdl.out];omega),hdl.out,Nat.sub_self,BJ us k (by rw[HUL.out];omega),List.set_cons_zero,List.append_assoc];rfl
   have hcell:=hMr.cell (Pg (post:=post) (mid:=ds++us.drop k) (i:=k) HJ.out (by rw[hml];omega))
   rw[L7 HJ.out (by rw[hml];omega),hmg] at hcell
   have hfz:=hMr.frozen (j+k);have hset : ∀ (z:Int) (y:Nat),z=(y:Int)→Mut .u32 97 (wr.setCell ⟨g,j+k,none⟩ (.int .u32 z)) g (pre++((ds++[y])++us.drop (k+1))++post):=fun z y hz=>by
    have:=hMr.setZ (j+k) hz
    rwa [Pf y HJ.out (by rw[hml];omega),hms] at this
   have HSET:=Lib.hid hset;have lu:=HU.out.getD k;clear hml hmg hms hset;by_cases hlt2:k < n
   ·obtain ⟨b3,o3,e3,_,hc3⟩:=hrr.at_ hlt2
    injection e3 with e3;injection e3 with e4 e5;subst e4 e5;have ld:=HV.out.getD k;obtain ⟨p,c2,lo,f1,f2,f3,hc2,hlo,hcq⟩:=ED hgs ld hcr;have HST:=Lib.hid (Vq (u:=us.getD k 0) HE.out hc2 lu hbr);rw[←Av,←Av,←Nat.pow_succ,←hlo] at HST;have HLEN:Hid (∀ d,(ds++[d]).length=k+1):=fun d=>by rw[List.length_append,hdl.out];rfl
    have HVAL:Hid (∀ d,val (ds++[d])=val ds+4294967296 ^ k*d):=fun d=>by rw[BO,hdl.out]
    have hlol:lo < 4294967296:=by omega
    generalize us.getD k 0=u at *;generalize vs.getD k 0=d at *;have HW:=Lib.hid (Qc u lo br lu hlol hbr);have hdig:(u+4294967296 - br - lo) % 4294967296 < 4294967296:=by omega
    have HC2:=Lib.hid hc2;clear hc2 hlo;generalize (u+4294967296 - br - lo) % 4294967296=dig at *;by_cases hneg:u < br+lo
    ·rw[if_pos hneg] at HST
     have hd1:decide ((u:Int) - (br:Int) - (lo:Int) < 0)=true:=by simp;omega
     go_wp2
     go_roundw
     case rel=>exact ⟨k+1,c2 / 4294967296,1,ds++[dig],by omega,by go_num,by go_num,rfl,hcq,by omega,HLEN.out _,hdw.out.append (W32.mk hdig W32.nil),by unfold Hid;rw[HVAL.out];exact HST.out,HSET.out _ _ HW.out,hrr.setCell (Nat.le_refl _) _,DO hgr (.inl rfl) _,by unfold Hid;rw[Da];exact hsz.out⟩
     case measure=>simp[intOf] <;> omega
    ·rw[if_neg hneg] at HST
     have hd1:decide ((u:Int) - (br:Int) - (lo:Int) < 0)=false:=by simp;omega
     go_wp2
     go_roundw
     case rel=>exact ⟨k+1,c2 / 4294967296,0,ds++[dig],by omega,by go_num,by go_num,rfl,hcq,by omega,HLEN.out _,hdw.out.append (W32.mk hdig W32.nil),by unfold Hid;rw[HVAL.out];exact HST.out,HSET.out _ _ (by have:=HW.out;omega),hrr.setCell (Nat.le_refl _) _,DO hgr (.inl rfl) _,by unfold Hid;rw[Da];exact hsz.out⟩
     case measure=>simp[intOf] <;> omega
   ·obtain rfl : k = n := by omega
    have hV0:0 < val vs:=HK.out.vpos;have he:val us+4294967296 ^ k*(br+cr)=val ds+gs*val vs+4294967296 ^ k*us.getD k 0:=by
     have h1:=HE.out;have h2:=Av us k;rw[List.take_of_length_le (i:=k+1) (by rw[HUL.out];omega)] at h2
     rw[List.take_of_length_le (l:=vs) (by rw[HVL.out];omega)] at h1
     omega
    have hdlt:=BP hdw.out;rw[hdl.out] at hdlt;obtain ⟨hpos,hneg⟩:=Rm hvlt rfl hV0 HQ2.out.1 HQ2.out.2 hdlt he;have HPOS:=Lib.hid hpos;have HNEG:=Lib.hid hneg;have hdrop:us.drop (k+1)=[]:=List.drop_of_length_le (by rw[HUL.out];omega)
    rw[hdrop] at HSET;simp only[List.append_nil] at HSET;have HDLT:=Lib.hid hdlt;have HVLT:=Lib.hid hvlt;clear hpos hneg he hdrop hdlt hvlt hult;generalize us.getD k 0=un at *;by_cases hsg:br+cr≤un
    ·obtain ⟨hgq,hL,hun⟩:=HPOS.out hsg
     have FIN:Hid (∀ (wf:World) (z:Int),z=((0:Nat):Int)→wf=wr.setCell ⟨g,j+k,none⟩ (.int .u32 z)→Jp 97 w g pre post k (val us) (val vs) (.returned (.int .u32 (gs:Int))) wf):=by
      rintro wf z hz rfl;refine ⟨ds++[0],by rw[hgq],by rw[List.length_append,hdl.out];rfl,hdw.out.append (W32.mk (by omega) W32.nil),by rw[BO,hL];simp,HSET.out z 0 hz,DO hgr (.inl rfl) _,by rw[Da];exact hsz.out⟩
     have hd1:decide ((un:Int) - (br:Int) - (cr:Int) < 0)=false:=by simp;omega
     have hz0:((un:Int) - (br:Int) - (cr:Int))=0:=by omega
     clear hgq hL hun;go_wp2
     go_ret
     exact FIN.out _ _ (by omega) rfl
    ·obtain ⟨hgq, hun, hL⟩ := HNEG.out (by omega)
     have HGQ:=Lib.hid hgq;have HLL:=Lib.hid hL;have hd1:decide ((un:Int) - (br:Int) - (cr:Int) < 0)=true:=by simp;omega
     have hst:=HSET.out (((un:Int) - (br:Int) - (cr:Int)) % 4294967296) 4294967295 (by omega)
     have hgr1:w.grownBy (wr.setCell ⟨g,j+k,none⟩ (.int .u32 (((un:Int) - (br:Int) - (cr:Int)) % 4294967296))) (some g):=DO hgr (.inl rfl) _;have hsz1:Hid ((wr.setCell ⟨g,j+k,none⟩ (.int .u32 (((un:Int) - (br:Int) - (cr:Int)) % 4294967296))).heap.size=w.heap.size):=by unfold Hid;rw[Da];exact hsz.out
     have hrr1:=hrr.setCell (p:=⟨g,j+k,none⟩) (Nat.le_refl _) (.int .u32 (((un:Int) - (br:Int) - (cr:Int)) % 4294967296));have hgs1:1≤gs:=by rw[hgq];exact Nat.succ_le_succ (Nat.zero_le _)
     clear hgq hL HSET HPOS HNEG;go_wp2
     generalize wr.setCell ⟨g,j+k,none⟩ (.int .u32 (((un:Int) - (br:Int) - (cr:Int)) % 4294967296))=w1 at *;clear hcell hfz hMr hrr hgr hsz hun
     go_loopw [15,138] (fun bk i wr => ∃ (k2 back:Nat) (es:List Nat),k2≤k∧i = .int .i64 k2∧bk = .int .u64 back∧back≤1∧Hid (es.length=k2)∧Hid (W32 es)∧Hid (val es+4294967296 ^ k2*back=val (ds.take k2)+val (vs.take k2))∧Mut .u32 97 wr g (pre++(es++(ds.drop k2++[4294967295]))++post)∧Rd .u32 wr g (some ⟨bv,ov,none⟩) k vs∧w.grownBy wr (some g)∧Hid (wr.heap.size=w.heap.size)) (fun _ i _=>k - (intOf i).toNat)
     case atStart=>exact ⟨0,0,[],by omega,rfl,rfl,by omega,rfl,W32.nil,by simp[val,Hid],by simpa using hst,hrr1,hgr1,hsz1⟩
     case round =>
      obtain ⟨k2,back,es,hk2,rfl,rfl,hbk,hel,hew,HE3,hM3,hr3,hgr3,hsz3⟩:=hrel;clear hst hrr1 hgr1 hsz1;have hml:(es++(ds.drop k2++[4294967295])).length=k+1:=by
       rw[List.length_append,List.length_append,List.length_drop,hel.out,hdl.out];simp;omega
      by_cases hlt3:k2 < k
      ·have hmg:(es++(ds.drop k2++[4294967295])).getD k2 0=ds.getD k2 0:=by
        rw[List.getD_eq_getElem?_getD,List.getElem?_append_right (by rw[hel.out];omega),hel.out,Nat.sub_self,List.getElem?_append_left (by rw[List.length_drop,hdl.out];omega),List.getElem?_drop,Nat.add_zero,←List.getD_eq_getElem?_getD]
       have hms : ∀ y,(es++(ds.drop k2++[4294967295])).set k2 y=(es++[y])++(ds.drop (k2+1)++[4294967295]):=fun y=>by
        rw[List.set_append_right _ _ (by rw[hel.out];omega),hel.out,Nat.sub_self,BJ ds k2 (by rw[hdl.out];omega),List.cons_append,List.set_cons_zero,List.append_assoc];rfl
       have hcell:=hM3.cell (Pg (post:=post) (i:=k2) HJ.out (by rw[hml];omega))
       rw[L7 HJ.out (by rw[hml];omega),hmg] at hcell
       have hfz:=hM3.frozen (j+k2);have hset : ∀ (z:Int) (y:Nat),z=(y:Int)→Mut .u32 97 (wr.setCell ⟨g,j+k2,none⟩ (.int .u32 z)) g (pre++((es++[y])++(ds.drop (k2+1)++[4294967295]))++post):=fun z y hz=>by
        have:=hM3.setZ (j+k2) hz
        rwa [Pf y HJ.out (by rw[hml];omega),hms] at this
       have HSET:=Lib.hid hset;have ld1:=hdw.out.getD k2;have ld2:=HV.out.getD k2;obtain ⟨b3,o3,e3,_,hc3⟩:=hr3.at_ hlt3;injection e3 with e3;injection e3 with e4 e5;subst e4 e5;have HST:=Lib.hid (Kk (x:=ds.getD k2 0) (y:=vs.getD k2 0) HE3.out);rw[←Av,←Av,←Nat.pow_succ] at HST;have HLEN:Hid (∀ d,(es++[d]).length=k2+1):=fun d=>by rw[List.length_append,hel.out];rfl
       have HVAL:Hid (∀ d,val (es++[d])=val es+4294967296 ^ k2*d):=fun d=>by rw[BO,hel.out]
       clear hml hmg hms hset;generalize ds.getD k2 0=x at *;generalize vs.getD k2 0=y at *;go_wp2
       go_roundw
       case rel=>exact ⟨k2+1,(back+x+y) / 4294967296,es++[(back+x+y) % 4294967296],by omega,by go_num,by first | go_num | exact congrArg _ (by omega),by omega,HLEN.out _,hew.out.append (W32.mk (by omega) W32.nil),by unfold Hid;rw[HVAL.out];exact HST.out,HSET.out _ _ (by omega),hr3.setCell (Nat.le_refl _) _,DO hgr3 (.inl rfl) _,by unfold Hid;rw[Da];exact hsz3.out⟩
       case measure=>simp[intOf] <;> omega
      ·obtain rfl:k2=k:=by omega
       rw[List.drop_of_length_le (by rw[hdl.out];omega),List.nil_append] at hM3 hml
       have hmg:(es++[4294967295]).getD k2 0=4294967295:=by
        rw[List.getD_eq_getElem?_getD,List.getElem?_append_right (by rw[hel.out];omega),hel.out,Nat.sub_self];rfl
       have hcell:=hM3.cell (Pg (post:=post) (i:=k2) HJ.out (by rw[hml];omega))
       rw[L7 HJ.out (by rw[hml];omega),hmg] at hcell
       have hfz:=hM3.frozen (j+k2);have hval:back=1∧val es=val us % val vs:=by
        have h1:=HE3.out;rw[List.take_of_length_le (by rw[hdl.out];omega),List.take_of_length_le (by rw[HVL.out];omega),HLL.out] at h1
        have h2:=BP hew.out;rw[hel.out] at h2;have h3:=Nat.mod_lt (val us) hV0;have h4:=HVLT.out;have hb1:back=1:=by
         rcases Nat.eq_zero_or_pos back with h0 | h0
         ·exfalso;rw[h0,Nat.mul_zero] at h1;omega
         ·omega
        subst hb1;refine ⟨rfl,?_⟩;rw[Nat.mul_one] at h1;generalize val us % val vs=R at *;omega
       obtain ⟨rfl,hve⟩:=hval;have FIN:Hid (∀ (wf:World) (z:Int),z=((0:Nat):Int)→wf=wr.setCell ⟨g,j+k2,none⟩ (.int .u32 z)→Jp 97 w g pre post k2 (val us) (val vs) (.returned (.int .u32 ((gs - 1:Nat):Int))) wf):=by
        rintro wf z hz rfl;have hset:=hM3.setZ (j+k2) hz;rw[Pf 0 HJ.out (by rw[hml];omega)] at hset
        have hms:(es++[4294967295]).set k2 0=es++[0]:=by
         rw[List.set_append_right _ _ (by rw[hel.out];omega),hel.out,Nat.sub_self];rfl
        rw[hms] at hset;refine ⟨es++[0],by rw[HGQ.out,Nat.add_sub_cancel],by rw[List.length_append,hel.out];rfl,hew.out.append (W32.mk (by omega) W32.nil),by rw[BO,hve];simp,hset,DO hgr3 (.inl rfl) _,by rw[Da];exact hsz3.out⟩
       clear hve hml hmg;go_wp2
       go_ret
       have hfin:=FIN.out _ _ rfl rfl;have e1:((gs:Int) - 1)=((gs - 1:Nat):Int):=by omega
       first | exact hfin | (rw[e1];exact hfin) | (simp only[e1];exact hfin)
end Go.Proofs.YtdgbealknnmkoaaGreatDoor
