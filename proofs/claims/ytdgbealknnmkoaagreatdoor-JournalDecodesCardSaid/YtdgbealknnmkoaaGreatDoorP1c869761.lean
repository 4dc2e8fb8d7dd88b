/- Texts of one proof, put together by a program: each lemma is proved for all values of its variables, under the premises that it states. -/
import Derived.Deep.RegionHeld3
import Derived.Test.YtdgbealknnmkoaaGreatDoorPf09b338c
import Derived.Test.YtdgbealknnmkoaaGreatDoorPcc684a13
set_option linter.unusedVariables false
set_option linter.unusedSimpArgs false
namespace Go.Proofs.YtdgbealknnmkoaaGreatDoor
open Go.RowKit
theorem Du {l:List Nat}(hl:W32 l){k:Nat}(hk:k≤l.length)(h:val l < 4294967296 ^ k):val (l.take k)=val l∧val (l.drop k)=0:=by
 have e:val l=val (l.take k)+4294967296 ^ k*val (l.drop k):=by
  conv=>lhs;rw[←List.take_append_drop k l]
  rw[C6,List.length_take,Nat.min_eq_left hk]
 have h0:val (l.drop k)=0:=by
  rcases Nat.eq_zero_or_pos (val (l.drop k)) with h1 | h1
  ·exact h1
  ·exfalso
   have:=Nat.mul_le_mul_left (4294967296 ^ k) h1;omega
 rw[h0,Nat.mul_zero] at e;exact ⟨by omega,h0⟩
theorem N4 (l:List Nat)(k:Nat)(hk:k≤l.length):val l=val (l.take k)+4294967296 ^ k*val (l.drop k):=by
 conv=>lhs;rw[←List.take_append_drop k l]
 rw[C6,List.length_take,Nat.min_eq_left hk]
theorem Ze {l:List Nat}(hl:W32 l){k:Nat}(hk:l.length=k+1){c:Nat}(h:c*4294967296 ^ k≤val l):c≤l.getD k 0:=by
 have e:=Av l k;rw[List.take_of_length_le (by omega)] at e
 have hlt:=BP (hl.take k);rw[List.length_take,Nat.min_eq_left (by omega)] at hlt
 generalize 4294967296 ^ k=P at *;rw[e] at h;have h2:c*P < (l.getD k 0+1)*P:=by rw[Nat.succ_mul,Nat.mul_comm (l.getD k 0)];omega
 have:=Nat.lt_of_mul_lt_mul_right h2;omega
theorem ZN {us:List Nat}{j n V:Nat}(hus:W32 us)(hj:j+n+1≤us.length)(hVn:V < 4294967296 ^ n)(hhi:val (us.drop (j+1)) < V):val ((us.drop j).take (n+1)) < V*4294967296:=by
 have hd:=BJ us j (by omega)
 have hx:=hus.getD j;have hvd:val (us.drop j)=us.getD j 0+4294967296*val (us.drop (j+1)):=by rw[hd,Bq]
 have hlt:val (us.drop j) < V*4294967296:=by omega
 have hlt2:val (us.drop j) < 4294967296 ^ (n+1):=by
  rw[Nat.pow_succ];exact Nat.lt_of_lt_of_le hlt (Nat.mul_le_mul_right _ (Nat.le_of_lt hVn))
 rw[(Du (hus.drop j) (k:=n+1) (by rw[List.length_drop];omega) hlt2).1]
 exact hlt
theorem Vu {us rs:List Nat}{j n V U Qh:Nat}(hus:W32 us)(hj:j+n+1≤us.length)(hVn:V < 4294967296 ^ n)(hinv:U=val us+V*(4294967296 ^ (j+1)*Qh))(hhi:val (us.drop (j+1)) < V)(hrl:rs.length=n+1)(hrv:val rs=val ((us.drop j).take (n+1)) % V) :
  val ((us.drop j).take (n+1)) < V*4294967296 ∧
  (U=val (us.take j++rs++us.drop (j+(n+1)))+V*(4294967296 ^ j*(val ((us.drop j).take (n+1)) / V+4294967296*Qh)))∧val ((us.take j++rs++us.drop (j+(n+1))).drop j) < V:=by
 have hV0:0 < V:=by omega
 have hd:=BJ us j (by omega)
 have hx:=hus.getD j;have hvd:val (us.drop j)=us.getD j 0+4294967296*val (us.drop (j+1)):=by rw[hd,Bq]
 have hlt:val (us.drop j) < V*4294967296:=by omega
 have hpn:4294967296 ^ (n+1)=4294967296 ^ n*4294967296:=Nat.pow_succ ..
 have hlt2:val (us.drop j) < 4294967296 ^ (n+1):=by
  rw[hpn];exact Nat.lt_of_lt_of_le hlt (Nat.mul_le_mul_right _ (Nat.le_of_lt hVn))
 obtain ⟨hw,hz⟩:=Du (hus.drop j) (k:=n+1) (by rw[List.length_drop];omega) hlt2
 rw[List.drop_drop] at hz;have hsp:=N4 us j (by omega)
 have hlj:(us.take j).length=j:=by rw[List.length_take];omega
 have hnew:val (us.take j++rs++us.drop (j+(n+1)))=val (us.take j)+4294967296 ^ j*val rs:=by
  rw[List.append_assoc,C6,hlj,C6,hz,Nat.mul_zero,Nat.add_zero]
 have hnd:(us.take j++rs++us.drop (j+(n+1))).drop j=rs++us.drop (j+(n+1)):=by
  rw[List.append_assoc,List.drop_append,List.drop_of_length_le (by omega),hlj,Nat.sub_self,List.drop_zero,List.nil_append]
 refine ⟨by rw[hw];exact hlt,?_,?_⟩
 ·rw[hnew,hrv,hw,hinv,hsp]
  have hdm:=Nat.div_add_mod (val (us.drop j)) V;generalize val (us.drop j)=D at *;generalize D / V=q at *;generalize D % V=r at *;rw[←hdm,Nat.pow_succ];generalize 4294967296 ^ j=P;have e1:P*(V*q+r)=P*(V*q)+P*r:=Nat.mul_add ..
  have e2:V*(P*(q+4294967296*Qh))=P*(V*q)+V*(P*4294967296*Qh):=by
   rw[Nat.mul_add,Nat.mul_add,←Nat.mul_assoc V P q,Nat.mul_comm V P,Nat.mul_assoc P V q,Nat.mul_assoc P 4294967296 Qh]
  rw[e1,e2];omega
 ·rw[hnd,C6,hz,Nat.mul_zero,Nat.add_zero,hrv]
  exact Nat.mod_lt _ hV0
def Td (w:World)(q r:Nat)(e:Ending)(w':World):Prop :=
 ∃ A n c A' n' c',e = .returned (.tuple #[.slice A n c,.slice A' n' c'])∧Rd .u32 w' w'.heap.size A n (Ae q)∧Rd .u32 w' w'.heap.size A' n' (Ae r)∧n≤c∧c≤9223372036854775807∧n'≤c'∧c'≤9223372036854775807∧Below w.heap.size w w'
theorem Mx {b n:Nat}(hln:(Ae b).length=n)(hn:1≤n):(Ae b).getD (n - 1) 0≠0∧(Ae b).getD (n - 1) 0 < 4294967296∧32 - Bl ((Ae b).getD (n - 1) 0) < 32 ∧
  b*2 ^ (32 - Bl ((Ae b).getD (n - 1) 0)) < 4294967296 ^ n∧2147483648*4294967296 ^ (n - 1)≤b*2 ^ (32 - Bl ((Ae b).getD (n - 1) 0)):=by
 have hyl:(Ae b).getD (n - 1) 0 < 4294967296:=(Ai b).getD _;have hy0:(Ae b).getD (n - 1) 0≠0:=by
  rcases Rp b with h | h
  ·rw[h] at hln;simp at hln;omega
  ·intro h0
   apply h;rw[List.getLast?_eq_getElem?,hln];rw[List.getD_eq_getElem?_getD,List.getElem?_eq_getElem (by omega)] at h0
   rw[List.getElem?_eq_getElem (by omega)]
   simpa using h0
 have hbt:b=val ((Ae b).take (n - 1))+4294967296 ^ (n - 1)*(Ae b).getD (n - 1) 0:=by
  have e:=Av (Ae b) (n - 1)
  rwa [show n - 1+1=n by omega,List.take_of_length_le (by omega),An] at e
 have hbl:val ((Ae b).take (n - 1)) < 4294967296 ^ (n - 1):=by
  have:=BP ((Ai b).take (n - 1))
  rwa [List.length_take,Nat.min_eq_left (by omega)] at this
 obtain ⟨h1,h2,h3⟩:=Sq hy0 hyl;refine ⟨hy0,hyl,h1,?_,?_⟩;all_goals
  generalize (Ae b).getD (n - 1) 0=y at *;generalize 2 ^ (32 - Bl y)=S at *;generalize val ((Ae b).take (n - 1))=l at *
 ·have e:4294967296 ^ n=4294967296 ^ (n - 1)*4294967296:=by rw[←Nat.pow_succ];congr 1;omega
  rw[e];generalize 4294967296 ^ (n - 1)=P at *;have hS0:0 < S:=by
   rcases Nat.eq_zero_or_pos S with h | h
   ·rw[h] at h2;omega
   ·exact h
  have h4:b < P*(y+1):=by rw[Nat.mul_succ];omega
  have h5:b*S < P*(y+1)*S:=Nat.mul_lt_mul_of_pos_right h4 hS0;rw[Nat.mul_assoc] at h5;exact Nat.lt_of_lt_of_le h5 (Nat.mul_le_mul_left _ h3)
 ·generalize 4294967296 ^ (n - 1)=P at *
  have h4:P*y≤b:=by omega
  have h5:=Nat.mul_le_mul_right S h4;rw[Nat.mul_assoc] at h5;have h6:=Nat.mul_le_mul_left P h2;rw[Nat.mul_comm 2147483648 P];exact Nat.le_trans h6 h5
theorem Mut.rdB {k:IntKind}{e:TypeId}{w:World}{g B:Nat}{xs:List Nat}(h:Mut k e w g xs)(hg:g < B):Rd k w B (some ⟨g,0,none⟩) xs.length xs :=
 ⟨rfl,fun _=>⟨g,0,rfl,hg,fun j x hx=>by rw[Nat.zero_add];exact h.cell' j x hx⟩⟩
theorem X4 {a b S Q r:Nat}(hS:0 < S)(hb:0 < b)(h:a*S=r+b*S*Q)(hr:r < b*S):Q=a / b∧r / S=a % b:=by
 have h1:a*S / (b*S)=Q:=by
  rw[h,Nat.add_mul_div_left _ _ (Nat.mul_pos hb hS),Nat.div_eq_of_lt hr,Nat.zero_add]
 rw[Nat.mul_div_mul_right _ _ hS] at h1;refine ⟨h1.symm,?_⟩;have h2:=Nat.div_add_mod a b;rw[h1] at h2;have h3:r=a % b*S:=by
  have:a*S=(b*Q+a % b)*S:=by rw[h2]
  rw[Nat.add_mul] at this;have e:b*S*Q=b*Q*S:=by rw[Nat.mul_assoc,Nat.mul_comm S Q,←Nat.mul_assoc]
  rw[e] at h;omega
 rw[h3,Nat.mul_div_cancel _ hS]
set_option maxHeartbeats 2000000 in
set_option maxRecDepth 100000 in
theorem Ro {A A':Option Addr}{m n c c' a b:Nat}(w:World)(hr:Rd .u32 w w.heap.size A m (Ae a))(hr':Rd .u32 w w.heap.size A' n (Ae b))(hm:m≤549755813888)(hn:2≤n)(hab:b≤a) :
  Calls Tryz.prog 196 #[.slice A m c,.slice A' n c'] w (Td w (a / b) (a % b)):=by
 have hlm:=hr.len;have hln:=hr'.len;have hnm:n≤m:=by rw[←hlm,←hln];exact AW hab
 have hb0:0 < b:=by
  rcases Nat.eq_zero_or_pos b with h | h
  ·rw[h,AY] at hln;simp at hln;omega
  ·exact h
 obtain ⟨hy0,hyl,hs32,hVlt,hVge⟩:=Mx hln (by omega)
 obtain ⟨by_,oy,rfl,hby,hcy⟩:=hr'.at_ (j:=n - 1) (by omega)
 have halt:=Ca a;rw[hlm] at halt;have hbge:4294967296 ^ (n - 1)≤b:=by
  have:=KH (n:=b) (by omega)
  rwa [hln] at this
 generalize (Ae b).getD (n - 1) 0=y at *;have hlz:=EE y w hyl;have hsl:=fun W (r:Rd .u32 W W.heap.size (some ⟨by_,oy,none⟩) n (Ae b))=>Hl (c:=c') (s:=32 - Bl y) W r (Ai b) (by omega) hs32
 have hsx:=fun W (r:Rd .u32 W W.heap.size A m (Ae a))=>Hl (c:=c) (s:=32 - Bl y) W r (Ai a) (by omega) hs32
 have hsr:=fun W A0 us c0 (r:Rd .u32 W W.heap.size A0 n us) (hu:W32 us)=>Mb (c:=c0) (s:=32 - Bl y) W r hu (by omega) hs32
 simp only[An] at hsl hsx;generalize 32 - Bl y=s at *;have hS0:0 < 2 ^ s:=Nat.two_pow_pos s;have HLZ:=Lib.hid hlz;have HSL:=Lib.hid hsl;have HSX:=Lib.hid hsx;have HSR:=Lib.hid hsr;have HVLT:=Lib.hid hVlt;have HVGE:=Lib.hid hVge;have HAL:=Lib.hid halt;have HBG:=Lib.hid hbge;clear hlz hsl hsx hsr hVlt hVge halt hbge hlm hln hy0;go_enter Tryz.func196,Tryz.ntmps196
 go_wp2_with fail
 refine HLZ.out.mono ?_;rintro e w1 ⟨rfl,rfl⟩;go_wp2_with fail
 refine (HSL.out _ hr').mono ?_;rintro e w1 ⟨gv,vz,rfl,Bv,hvl,hvw,hvv,hgv,b1⟩;go_wp2_with fail
 refine (HSX.out _ (hr.call b1)).mono ?_;rintro e w2 ⟨gu,uz,rfl,Bu,hul,huw,huv,hgu,b2⟩;have lgv:=Bv.lt;have hgvu:gv < gu:=by omega
 have mv:=Bv.mut.call b2;have mu:=Bu.mut;have hb12:=b1.trans (b2.mono b1.size);go_wp2_with (at_make;refine AV (kx := .i64) (ky := .i64) (n:=m - n+1) (c:=m - n+1) Tryz.elemU32 Tryz.underlying22 rfl rfl (congrArg (Value.int .i64) (by omega)) (congrArg (Value.int .i64) (by omega)) (Nat.le_refl _) (by omega) (by omega) ?_)
 intro w3 B3 b3 l3;have mu3:=mu.call b3;have mv3:=mv.call b3;have mq:=B3.mut;have hb3:=hb12.trans (b3.mono hb12.size);have hguq:gu < w2.heap.size:=Bu.lt
 -- the divisor, shifted
 obtain ⟨hvt,_⟩:=Du hvw (k:=n) (by omega) (by rw[hvv];exact HVLT.out)
 rw[hvv] at hvt;have hvtl:(vz.take n).length=n:=by rw[List.length_take];omega
 have hrv3:=(mv3.take n).rdB hgvu;rw[hvtl] at hrv3;have hvtw:=hvw.take n;have hnrm:2147483648≤(vz.take n).getD (n - 1) 0:=Ze hvtw (k:=n - 1) (by rw[hvtl];omega) (by rw[hvt];exact HVGE.out)
 have hhi0:val (uz.drop (m - n+1)) < b*2 ^ s:=by
  have e:=N4 uz (m - n+1) (by omega)
  rw[huv] at e;have h1:a*2 ^ s < 4294967296 ^ m*2 ^ s:=Nat.mul_lt_mul_of_pos_right HAL.out hS0;have h2:4294967296 ^ m=4294967296 ^ (m - n+1)*4294967296 ^ (n - 1):=by rw[←Nat.pow_add];congr 1;omega
  rw[h2,Nat.mul_assoc] at h1;have h3:4294967296 ^ (m - n+1)*val (uz.drop (m - n+1)) < 4294967296 ^ (m - n+1)*(4294967296 ^ (n - 1)*2 ^ s):=by omega
  exact Nat.lt_of_lt_of_le (Nat.lt_of_mul_lt_mul_left h3) (Nat.mul_le_mul_right _ HBG.out)
 generalize hvs:vz.take n=vs at *;have HVV:=Lib.hid hvt;have HVW:=Lib.hid hvtw;have HHI:=Lib.hid hhi0;have HUV:=Lib.hid huv;have HUL:=Lib.hid hul;have HUW:=Lib.hid huw;have HNR:=Lib.hid hnrm;have HVL2:=Lib.hid hvtl;clear hvs hvt hvtw hvtl hvl hvv hvw hhi0 huv hul huw hnrm mv mv3 mu Bu Bv B3 b1 b2 b3 hb12 HSL HSX HLZ hr hr' hcy;generalize hgq:w2.heap.size=gq at *;clear hgq;go_wp2
 go_loopw [10] (fun i wr => ∃ (k:Nat) (us qs:List Nat),k≤m - n+1∧i = .int .i64 ((k:Int) - 1)∧Hid (us.length=m+1)∧Hid (W32 us)∧Hid (qs.length=m - n+1)∧Hid (W32 qs)∧Hid (a*2 ^ s=val us+b*2 ^ s*(4294967296 ^ k*val (qs.drop k)))∧Hid (val (us.drop k) < b*2 ^ s)∧Mut .u32 97 wr gu us∧Mut .u32 97 wr gq qs∧Rd .u32 wr gu (some ⟨gv,0,none⟩) n vs∧Below w.heap.size w wr) (fun i _=>(intOf i+1).toNat)
 case atStart =>
  refine ⟨m - n+1,uz,List.replicate (m - n+1) 0,Nat.le_refl _,congrArg _ (by omega),HUL,HUW,by simp[Hid],W32.rep _,?_,HHI,mu3,mq,hrv3,hb3⟩
  unfold Hid;rw[HUV.out,List.drop_of_length_le (by simp),O3,Nat.mul_zero,Nat.mul_zero,Nat.add_zero]
 case round =>
  obtain ⟨k,us,qs,hk,rfl,husl,husw,hqsl,hqsw,HI,HH,mU,mQ,rV,hbw⟩:=hrel;clear mu3 mq hrv3 hb3 HUV HUL HUW HHI;by_cases h0:0 < k
  ·obtain ⟨k,rfl⟩ : ∃ j,k=j+1:=⟨k - 1,by omega⟩
   have hkk:((k+1:Nat):Int) - 1=(k:Int):=by omega
   rw[hkk];clear hkk;have hkm:k+n+1≤m+1:=by omega
   have hsplit:us=us.take k++(us.drop k).take (n+1)++us.drop (k+(n+1)):=by
    rw[List.append_assoc,←List.drop_drop,List.take_append_drop,List.take_append_drop]
   have mU2:=mU;rw[hsplit] at mU2;have hpre:(us.take k).length=k:=by rw[List.length_take,husl.out];omega
   have hwin:((us.drop k).take (n+1)).length=n+1:=by rw[List.length_take,List.length_drop,husl.out];omega
   have hlt:=ZN husw.out (by rw[husl.out];omega) HVLT.out HH.out
   have hds:=Rn (c:=m+1 - k) (c':=n+1) wr mU2 hpre hwin rV ((husw.out.drop k).take (n+1)) HVW.out hn (by omega) HNR.out (by rw[HVV.out];exact hlt)
   rw[HVV.out] at hds;have HDS:=Lib.hid hds;clear hds mU2 hsplit;have hne : ¬ m+1=k:=by omega
   have hcq:=mQ.cell (i:=k) (by rw[hqsl.out];omega)
   have hfq:=mQ.frozen k;have hqd:val ((us.drop k).take (n+1)) / (b*2 ^ s) < 4294967296:=Nat.div_lt_of_lt_mul hlt;have lgq:=mQ.lt;go_wp2_with fail
   rw[show k+n+1 - k=n+1 by omega]
   refine HDS.out.mono ?_;rintro e w5 ⟨rs,rfl,hrl,hrw,hrv,mU5,hgr5,hsz5⟩;obtain ⟨_,hI5,hH5⟩:=Vu husw.out (by rw[husl.out];omega) HVLT.out HI.out HH.out hrl hrv
   have mQ5:=mQ.grown hgr5 (by omega)
   have rV5:=rV.grown hgr5 (Nat.le_of_lt mU.lt) (fun g hg=>by injection hg with hg;omega)
   have hb5:=Fe hbw hgr5 hbw.size (by omega)
   have hcq5:=mQ5.cell (i:=k) (by rw[hqsl.out];omega)
   have hfq5:=mQ5.frozen k;have HI5:=Lib.hid hI5;have HH5:=Lib.hid hH5;have HSZ5:=Lib.hid hsz5;have HRL:=Lib.hid hrl;have HRW:=Lib.hid hrw;clear hI5 hH5 hsz5 HDS mU mQ rV hcq hfq hrv hbw HI HH hrl hrw;have HQS:Hid (∀ d,val ((qs.set k d).drop k)=d+4294967296*val (qs.drop (k+1))):=fun d=>by
    rw[BJ (qs.set k d) k (by rw[List.length_set,hqsl.out];omega),Bq,List.drop_set_of_lt (by omega)]
    congr 1;rw[List.getD_eq_getElem?_getD,List.getElem?_set_self (by rw[hqsl.out];omega)];rfl
   generalize val ((us.drop k).take (n+1)) / (b*2 ^ s)=qd at *;generalize qs.getD k 0=old at *;go_wp2
   go_roundw
   case rel =>
    refine ⟨k,us.take k++rs++us.drop (k+(n+1)),qs.set k qd,by omega,rfl,?_,?_,?_,hqsw.out.set _ hqd,?_,HH5,mU5.far (by show gu≠gq;omega) _,mQ5.setZ k rfl,rV5.setCell (by show gu≤gq;omega) _,hb5.setCell (by show w.heap.size≤gq;omega) _⟩
    ·unfold Hid;rw[List.length_append,List.length_append,hpre,HRL.out,List.length_drop,husl.out];omega
    ·exact ((husw.out.take k).append HRW.out).append (husw.out.drop _)
    ·unfold Hid;rw[List.length_set];exact hqsl.out
    ·unfold Hid;rw[HQS.out];exact HI5.out
   case measure=>simp[intOf] <;> omega
  ·obtain rfl:k=0:=by omega
   have hI:=HI.out;have hH:=HH.out;rw[List.drop_zero] at hI hH;rw[Nat.pow_zero,Nat.one_mul] at hI;obtain ⟨hQ,hR⟩:=X4 hS0 hb0 hI hH;obtain ⟨ht1,_⟩:=Du husw.out (k:=n) (by rw[husl.out];omega) (Nat.lt_trans hH HVLT.out)
   have hrq:=mQ.rd;rw[hqsl.out] at hrq;have htr:=fun W (h:Rd .u32 W W.heap.size (some ⟨gq,0,none⟩) (m - n+1) qs)=>Cx (c:=m - n+1) W h hqsw.out (Nat.le_refl _) (by omega)
   have hru:=(mU.take n).rd;have htl:(us.take n).length=n:=by rw[List.length_take,husl.out];omega
   rw[htl] at hru;have hsr2:=fun W (h:Rd .u32 W W.heap.size (some ⟨gu,0,none⟩) n (us.take n))=>HSR.out W _ _ (m+1) h (husw.out.take n)
   rw[ht1,hR] at hsr2;have HTR:=Lib.hid htr;have HS2:=Lib.hid hsr2;have HQQ:=Lib.hid hQ;have HQL:=Lib.hid hqsl.out;clear htr hsr2 hI hH hQ hR ht1 htl;go_wp2
   have q1:(0:Int)≤(n:Int):=by omega
   have q2:(n:Int)≤(m:Int)+1:=by omega
   go_region_held3 (fun _=>True) (trivial)
    ((first | (go_at_call 132;refine (HTR.out wr.drew hrq.drew).mono ?_;rintro e w8 ⟨mm,hmm,htt,rfl,rfl⟩) | (go_at_call 222;refine (HS2.out wr.drew hru.drew).mono ?_;rintro e w9 ⟨A9,n9,c9,rfl,r9,h9,h9',hb9⟩)))
   go_wp2
   go_ret2
   have rq:=(hrq.drew.take (j:=mm) (by rw[←HQL.out];exact hmm)).call hb9
   rw[htt,HQQ.out] at rq;exact ⟨_,mm,mm,A9,n9,c9,rfl,rq,r9,Nat.le_refl _,by have:=HQL.out;omega,h9,h9',(hbw.drew).trans (hb9.mono hbw.size)⟩
theorem BR {w w':World}(h : ∃ n,w'=w.drewN n):Below w.heap.size w w':=by obtain ⟨n,rfl⟩:=h;exact CM w n
theorem Za (e32:TypeId)(w:World)(g d:Nat)(zs:List Nat):Uv e32 w g d zs=fun e w' => ∃ qs,e = .returned (.int .u32 ((val zs % d:Nat):Int))∧qs.length=zs.length∧W32 qs∧val qs=val zs / d∧Mut .u32 e32 w' g qs∧w.grownBy w' (some g)∧w'.heap.size=w.heap.size:=rfl
theorem Ha {a b:Nat}(h:a < b):BT a b = -1:=by unfold BT;rw[if_pos h]
theorem Hc {a b:Nat}(h:b≤a):0≤BT a b:=by unfold BT;rw[if_neg (by omega)];split <;> omega
set_option maxHeartbeats 1000000 in
set_option maxRecDepth 100000 in
theorem Jj {A A':Option Addr}{m n c c' a b:Nat}(w:World)(hr:Rd .u32 w w.heap.size A m (Ae a))(hr':Rd .u32 w w.heap.size A' n (Ae b))(hm:m≤549755813888)(hn:n≤549755813888)(hb:0 < b) :
  Calls Tryz.prog 166 #[.slice A m c,.slice A' n c'] w (Td w (a / b) (a % b)):=by
 have hcm:=EO (c:=c) (c':=c') w hr hr' (by omega) (by omega)
 have HC:=Lib.hid hcm;clear hcm;by_cases hlt:a < b
 ·rw[Ha hlt] at HC
  have hcl:=fun W (h:Rd .u32 W W.heap.size A m (Ae a))=>FG (c:=c) W h (by omega)
  have HCL:=Lib.hid hcl;have e1:a / b=0:=Nat.div_eq_of_lt hlt;have e2:a % b=a:=Nat.mod_eq_of_lt hlt;rw[e1,e2];clear hcl e1 e2;go_enter Tryz.func166,Tryz.ntmps166
  go_wp2_with fail
  refine HC.out.mono ?_;rintro e w1 ⟨rfl,hq1⟩;have b1:=BR hq1;clear hq1;go_wp2_with fail
  refine (HCL.out _ (hr.call b1)).mono ?_;rintro e w2 ⟨v2,rfl,o2⟩;obtain ⟨A2,n2,c2,rfl,r2,h2,h3⟩:=o2.form';have b2:=b1.trans (o2.2.mono b1.size);clear o2;go_wp2
  go_ret2
  exact ⟨none,0,0,A2,n2,c2,rfl,by rw[AY];exact Rd.nil,r2,by omega,by omega,h2,h3,b2⟩
 ·have hge:0≤BT a b:=Hc (by omega)
  have hnm:n≤m:=by rw[←hr.len,←hr'.len];exact AW (by omega)
  have hn0:0 < n:=by
   rcases Nat.eq_zero_or_pos n with h | h
   ·have:=hr'.len;rw[h] at this;have:=(AQ b).1 this;omega
   ·exact h
  generalize BT a b=cp at *;have hcd:decide (cp < 0)=false:=by simp;omega
  by_cases hm2:m≤2
  ·have hab:a < 18446744073709551616:=by
    have:=Ca a;rw[hr.len] at this;exact Nat.lt_of_lt_of_le this (Nat.le_trans (Nat.pow_le_pow_right (by omega) hm2) (by decide))
   have hta:=fun W (h:Rd .u32 W W.heap.size A m (Ae a))=>D7 (c:=c) W h hab
   have htb:=fun W (h:Rd .u32 W W.heap.size A' n (Ae b))=>D7 (c:=c') W h (by omega)
   have hq:a / b < 18446744073709551616:=Nat.lt_of_le_of_lt (Nat.div_le_self _ _) hab;have hrm:a % b < 18446744073709551616:=Nat.lt_of_le_of_lt (Nat.mod_le _ _) hab;have hfq:=fun W=>Cr (a / b) W hq
   have hfr:=fun W=>Cr (a % b) W hrm
   have e1:(a:Int) / (b:Int)=((a / b:Nat):Int):=by simp
   have e2:(a:Int) % (b:Int)=((a % b:Nat):Int):=by simp
   have hb1:(1:Int)≤(b:Int):=by omega
   have hbne:((b:Int) == 0)=false:=by simp;omega
   have hbn : ¬ b=0:=by omega
   have e4:(a:Int).tmod (b:Int)=((a % b:Nat):Int):=by rw[Int.tmod_eq_emod_of_nonneg (by omega)];exact e2
   have e5:(a:Int).tdiv (b:Int)=((a / b:Nat):Int):=by rw[Int.tdiv_eq_ediv_of_nonneg (by omega)];exact e1
   have e3:IntKind.u64.wrap ((a / b:Nat):Int)=((a / b:Nat):Int):=IntWalk.u64_in _ ⟨Int.natCast_nonneg _,by have:=hq;omega⟩
   have hax:a≤18446744073709551615:=by omega
   have HA:=Lib.hid hta;have HB:=Lib.hid htb;have HQ:=Lib.hid hfq;have HR:=Lib.hid hfr;clear hta htb hfq hfr hq hrm hab;generalize a / b=qq at *;generalize a % b=rr at *;go_enter Tryz.func166,Tryz.ntmps166
   go_wp2_with fail
   refine HC.out.mono ?_;rintro e w1 ⟨rfl,hq1⟩;have b1:=BR hq1;clear hq1;go_wp2_with fail
   refine (HA.out _ (hr.call b1)).mono ?_;rintro e w2 ⟨rfl,hq2⟩;have b2:=b1.trans ((BR hq2).mono b1.size);have r2:=(hr'.call b1).call (BR hq2);clear hq2 b1;go_wp2_with fail
   refine (HB.out _ r2).mono ?_;rintro e w3 ⟨rfl,hq3⟩;have b3:=b2.trans ((BR hq3).mono b2.size);clear hq3 b2 r2;go_wp2_with fail
   go_region_held3 (fun _=>True) (trivial)
    ((first | (go_at_call 138;(try rw[e1]);(try rw[e3]);((with_reducible refine (HQ.out _).mono ?_));rintro e w4 ⟨A4,n4,c4,rfl,r4,h4,h4',hb4⟩) | (go_at_call 138;(try rw[e2]);(try rw[e4]);((with_reducible refine (HR.out _).mono ?_));rintro e w5 ⟨A5,n5,c5,rfl,r5,h5,h5',hb5⟩)))
   go_wp2
   go_ret2
   have bb:=(b3.drew).trans (hb4.mono b3.size);exact ⟨A4,n4,c4,A5,n5,c5,rfl,r4.call hb5,r5,h4,h4',h5,h5',bb.trans (hb5.mono bb.size)⟩
  ·have hm2':decide ((m:Int)≤2)=false:=by simp;omega
   by_cases hn1:n=1
   ·subst hn1
    obtain ⟨y,hyl,hyd,rfl⟩:=Fj hr'.len;rw[hyd] at hr';have hcl:=fun W (h:Rd .u32 W W.heap.size A m (Ae a))=>FG (c:=c) W h (by omega)
    have HCL:=Lib.hid hcl;have HLA:=Lib.hid hr.len;have HVA:=Lib.hid (An a);have HWA:=Lib.hid (Ai a);have hfr:=fun W=>Cr (a % b) W (Nat.lt_of_lt_of_le (Nat.mod_lt _ hb) (by omega))
    have HFR:=Lib.hid hfr;have hrl:a % b < 4294967296:=Nat.lt_trans (Nat.mod_lt _ hb) hyl;clear hcl hyd hfr;go_enter Tryz.func166,Tryz.ntmps166
    go_wp2_with fail
    refine HC.out.mono ?_;rintro e w1 ⟨rfl,hq1⟩;have b1:=BR hq1;clear hq1;have r1':=hr'.call b1;go_wp2_with fail
    refine (HCL.out _ (hr.call b1)).mono ?_;rintro e w2 ⟨v2,rfl,o2⟩;obtain ⟨g2,c2,hv2,m2,hg2,hc2,hc2'⟩:=o2.mut (by rw[HLA.out];omega)
    have b2:=b1.trans (o2.2.mono b1.size);have r2':=r1'.below o2.2;obtain ⟨by_,oy,rfl,hby,hcy⟩:=r2'.at_ (j:=0) (by omega)
    simp at hcy;rw[HLA.out] at hv2 hc2;have hdw:=EI (c:=c2) w2 m2 HWA.out HLA.out (by omega) hyl hb
    rw[Za,HVA.out] at hdw;have HDW:=Lib.hid hdw;clear hdw o2;rw[hv2];clear hv2;go_wp2_with fail
    refine HDW.out.mono ?_;rintro e w3 ⟨qs,rfl,hql,hqw,hqv,m3,hgr3,hsz3⟩;have b3:=Fe b2 hgr3 b2.size (Nat.le_trans b1.size hg2);have HQL:=Lib.hid (hql.trans HLA.out);have HQV:=Lib.hid hqv;have HSZ:=Lib.hid hsz3;clear HDW hql hqv hsz3;have r3:=m3.rd;rw[HQL.out] at r3;have htr:=Cx (c:=c2) w3 r3 hqw hc2 hc2';have HTR:=Lib.hid htr;clear htr;generalize a / b=qq at *;generalize a % b=rr at *;go_wp2_with fail
    refine HTR.out.mono ?_;rintro e w4 ⟨mm,hmm,htt,rfl,rfl⟩;rw[HQV.out] at htt;have r4:=r3.take (j:=mm) (by rw[←HQL.out];exact hmm)
    rw[htt] at r4;have HMM:=Lib.hid hmm;clear htt hmm HTR;go_wp2_with fail
    refine (HFR.out _).mono ?_;rintro e w5 ⟨A5,n5,c5,rfl,r5,h5,h5',hb5⟩;go_wp2
    go_ret2
    exact ⟨_,mm,mm,A5,n5,c5,rfl,r4.call hb5,r5,Nat.le_refl _,by have:=HMM.out;have:=HQL.out;omega,h5,h5',b3.trans (hb5.mono b3.size)⟩
   ·have hn1':((n:Int) == 1)=false:=by simp;omega
    have hdl:=fun W (h:Rd .u32 W W.heap.size A m (Ae a)) (h':Rd .u32 W W.heap.size A' n (Ae b))=>Ro (c:=c) (c':=c') W h h' hm (by omega) (by omega)
    have HDL:=Lib.hid hdl;clear hdl;go_enter Tryz.func166,Tryz.ntmps166
    go_wp2_with fail
    refine HC.out.mono ?_;rintro e w1 ⟨rfl,hq1⟩;have b1:=BR hq1;clear hq1;go_wp2_with fail
    refine (HDL.out _ (hr.call b1) (hr'.call b1)).mono ?_;rintro e w2 ⟨A4,n4,c4,A5,n5,c5,rfl,r4,r5,h4,h4',h5,h5',hb5⟩;go_wp2
    go_ret2
    exact ⟨A4,n4,c4,A5,n5,c5,rfl,r4,r5,h4,h4',h5,h5',b1.trans (hb5.mono b1.size)⟩
def Gk (w:World)(v:Value)(e:Ending)(w':World):Prop:=e = .returned v∧Below w.heap.size w w'
theorem Bw (neg:Bool)(v:Nat):(sgn neg v).natAbs=v:=by unfold sgn;cases neg <;> simp
theorem Gv (neg:Bool):sgn neg 0=0:=by cases neg <;> rfl
def Nb (w:World)(B n:Nat)(A:Option Addr)(v:Nat)(e:Ending)(w':World):Prop :=
 ∃ m,e = .returned (.slice A m m)∧Rd .u32 w B A m (Ae v)∧m≤n∧w=w'
theorem Wf {A:Option Addr}{n c B:Nat}{xs:List Nat}(w:World)(hr:Rd .u32 w B A n xs)(hx:W32 xs)(hnc:n≤c)(hc:c≤9223372036854775807) :
  Calls Tryz.prog 132 #[.slice A n c] w (Nb w B n A (val xs)):=by
 refine (Cx w hr hx hnc hc).mono ?_;rintro e w1 ⟨m,hm,ht,rfl,rfl⟩;have hm':m≤n:=by have:=hr.len;omega
 have r1:=hr.take hm';rw[ht] at r1;exact ⟨m,rfl,r1,hm',rfl⟩
theorem AInt.trim {w W:World}{neg:Bool}{A:Option Addr}{n c:Nat}{z:Int}(h:AInt w neg A n c z)(hb:Below w.heap.size w W) :
  Calls Tryz.prog 132 #[.slice A n c] W (Nb W w.heap.size n A z.natAbs):=by
 obtain ⟨ds,h1,h2,h3,h4,rfl⟩:=h;rw[Bw];exact Wf W (h1.below hb) h2 h3 h4
set_option maxRecDepth 100000 in
theorem Wv {neg:Bool}{A:Option Addr}{n c:Nat}{z:Int}(w:World)(h:AInt w neg A n c z) :
  Calls Tryz.prog 102 #[.agg #[.bool neg,.slice A n c]] w (Gk w (.int .i64 z.sign)):=by
 have HZ:Hid (z=sgn neg z.natAbs):=by obtain ⟨ds,h1,h2,h3,h4,rfl⟩:=h;rw[Hid,Bw]
 have ht:=fun W (hb:Below w.heap.size w W)=>h.trim hb
 have HT:=Lib.hid ht;clear ht h;generalize hv:z.natAbs=v at *;have HV:=Lib.hid hv;clear hv;go_enter Tryz.func102,Tryz.ntmps102
 go_wp2_with fail
 refine (HT.out _ ((Below.refl _ _).alloc (Nat.le_refl _) _)).mono ?_;rintro e w1 ⟨m,rfl,r1,hm,rfl⟩;have hl:=r1.len;by_cases h0:m=0
 ·subst h0
  obtain rfl:=(AQ v).1 hl;have hz:z.sign=0:=by rw[HZ.out,Gv];rfl
  go_wp2
  go_ret
  exact ⟨by rw[hz];rfl,(Below.refl _ _).alloc (Nat.le_refl _) _⟩
 ·have hv0:v≠0:=fun e=>h0 (by rw[←hl];exact (AQ v).2 e)
  have hne:((m:Int) == 0)=false:=by simp;omega
  clear hl;cases neg
  ·have hz:z.sign=1:=by rw[HZ.out];exact Int.sign_eq_one_of_pos (by simp[sgn];omega)
   have HS:=Lib.hid hz;clear hz;go_wp2
   go_ret
   exact ⟨by rw[HS.out];rfl,(Below.refl _ _).alloc (Nat.le_refl _) _⟩
  ·have hz:z.sign = -1:=by rw[HZ.out];exact Int.sign_eq_neg_one_of_neg (by simp[sgn];omega)
   have HS:=Lib.hid hz;clear hz;go_wp2
   go_ret
   exact ⟨by rw[HS.out];rfl,(Below.refl _ _).alloc (Nat.le_refl _) _⟩
def Pr (w:World)(g:Nat)(s:Bool)(A:Option Addr)(n c:Nat):Prop:=w.heap[g]? = some (.cells #[.bool s,.slice A n c] 24 (0,0))
section
variable {w w':World}{g:Nat}{s:Bool}{A:Option Addr}{n c:Nat}
theorem Pr.cell0 (h:Pr w g s A n c):w.cell? ⟨g,0,none⟩=some (.bool s):=by rw[cell_of_row w g 0 _ _ (0,0) h];rfl
theorem Pr.cell1 (h:Pr w g s A n c):w.cell? ⟨g,1,none⟩=some (.slice A n c):=by rw[cell_of_row w g 1 _ _ (0,0) h];rfl
theorem Pr.frozen (h:Pr w g s A n c)(i:Nat):w.frozen? ⟨g,i,none⟩=false:=by
 unfold Pr at h;simp[World.frozen?,h]
theorem Pr.lt (h:Pr w g s A n c):g < w.heap.size:=(Array.getElem?_eq_some_iff.1 h).1
theorem Pr.call (h:Pr w g s A n c)(hb:Below w.heap.size w w'):Pr w' g s A n c:=(hb.block g h.lt).trans h
theorem Pr.alloc (h:Pr w g s A n c)(o:Obj):Pr (w.alloc o) g s A n c:=(Below.heap_alloc w o g h.lt).trans h
theorem Pr.drew (h:Pr w g s A n c):Pr w.drew g s A n c:=h
theorem Pr.new (w:World)(s:Bool)(A:Option Addr)(n c:Nat):Pr (w.alloc (.cells #[.bool s,.slice A n c] 24)) w.heap.size s A n c:=by
 unfold Pr;simp only[World.alloc,Array.getElem?_push_size]
theorem Rd.apart {B m:Nat}{xs:List Nat}{b off:Nat}(hr:Rd .u32 w B (some ⟨b,off,none⟩) m xs)(hm:0 < m)(h:Pr w g s A n c):b≠g:=by
 rintro rfl;obtain ⟨b',off',e,_,hc⟩:=hr.at_ (j:=0) hm;injection e with e;injection e with e1 e2;subst e1 e2;have h0:=h.cell0;have h1:=h.cell1;have h2:=cell_of_row w b off _ _ (0,0) h;rcases off with _ | _ | k
 ·simp[h0] at hc
 ·simp[h1] at hc
 ·rw[h2] at hc;simp at hc
theorem Rd.stored {B m:Nat}{X:Option Addr}{xs:List Nat}(hr:Rd .u32 w B X m xs)(h:Pr w g s A n c)(u v:Value) :
  Rd .u32 ((w.setCell ⟨g,0,none⟩ u).setCell ⟨g,1,none⟩ v) B X m xs:=by
 rcases Nat.eq_zero_or_pos m with rfl | hm
 ·obtain rfl:xs=[]:=List.length_eq_zero_iff.1 hr.len
  exact Rd.nil
 ·obtain ⟨b,off,rfl,hb,_⟩:=hr.at_ (j:=0) hm
  have hne:=hr.apart hm h;refine ⟨hr.1,fun _ => ?_⟩
  obtain ⟨b',off',e,hb',hc⟩:=hr.2 hm;injection e with e;injection e with e1 e2;subst e1 e2;refine ⟨b,off,rfl,hb,fun j x hx => ?_⟩
  rw[World.cell?_setCell_other _ _ _ _ (fun e=>hne (congrArg Addr.block e).symm),World.cell?_setCell_other _ _ _ _ (fun e=>hne (congrArg Addr.block e).symm)]
  exact hc j x hx
theorem Pr.stored {s':Bool}{A':Option Addr}{n' c':Nat}(h:Pr w g s A n c):Pr ((w.setCell ⟨g,0,none⟩ (.bool s')).setCell ⟨g,1,none⟩ (.slice A' n' c')) g s' A' n' c':=by
 unfold Pr at h ⊢;simp only[World.setCell,Array.getElem?_modify,h,if_true,Option.map_some]
 rfl
theorem Pr.set0 (h:Pr w g s A n c)(u:Value):(w.setCell ⟨g,0,none⟩ u).cell? ⟨g,0,none⟩=some u:=World.cell?_setCell_same' _ _ _ (by rw[h.cell0];rfl)
theorem Pr.set1 (h:Pr w g s A n c)(u v:Value):((w.setCell ⟨g,0,none⟩ u).setCell ⟨g,1,none⟩ v).cell? ⟨g,1,none⟩=some v :=
 World.cell?_setCell_same' _ _ _ (by rw[World.cell?_setCell_other _ _ _ _ (by simp),h.cell1];rfl)
theorem Pr.all (h:Pr w g s A n c)(u v:Value):w.cell? ⟨g,0,none⟩=some (.bool s)∧w.cell? ⟨g,1,none⟩=some (.slice A n c)∧w.frozen? ⟨g,0,none⟩=false∧w.frozen? ⟨g,1,none⟩=false ∧
  (w.setCell ⟨g,0,none⟩ u).cell? ⟨g,0,none⟩=some u∧((w.setCell ⟨g,0,none⟩ u).setCell ⟨g,1,none⟩ v).cell? ⟨g,1,none⟩=some v:=⟨h.cell0,h.cell1,h.frozen 0,h.frozen 1,h.set0 u,h.set1 u v⟩
theorem CInt.stored {neg:Bool}{X:Option Addr}{m k:Nat}{z:Int}(hz:CInt w neg X m k z)(h:Pr w g s A n c)(u v:Value) :
  CInt ((w.setCell ⟨g,0,none⟩ u).setCell ⟨g,1,none⟩ v) neg X m k z :=
 ⟨(hz.1.stored h u v).more (by simp),hz.2⟩
theorem AC {B:Nat}{w0:World}(hb:Below B w0 w)(hg:B≤g)(u v:Value):Below B w0 ((w.setCell ⟨g,0,none⟩ u).setCell ⟨g,1,none⟩ v) :=
 (hb.setCell hg u).setCell hg v
end
theorem JU {a b:Nat}(h:b≤a):(Ae b).length≤(Ae a).length:=AW h
theorem RetInt.stored {w w2:World}{g:Nat}{s:Bool}{A:Option Addr}{n c:Nat}{neg:Bool}{X:Option Addr}{m k:Nat}{z:Int}(ci:CInt w2 neg X m k z)(p:Pr w2 g s A n c)(bb:Below w.heap.size w w2)(hg:w.heap.size≤g) :
  RetInt w z (.returned (.agg #[.bool neg,.slice X m k])) ((w2.setCell ⟨g,0,none⟩ (.bool neg)).setCell ⟨g,1,none⟩ (.slice X m k)) :=
 ⟨_,_,_,_,rfl,ci.stored p _ _,AC bb hg _ _⟩
theorem AA {w w1 w2:World}(a:Below w.heap.size w w1)(b:Below w1.heap.size w1 w2):Below w.heap.size w w2:=a.trans (b.mono a.size)
theorem Ek (w:World)(o:Obj):Below w.heap.size w (w.alloc o):=(Below.refl _ _).alloc (Nat.le_refl _) _
theorem Co {A:Option Addr}{n c m:Nat}(neg:Bool)(w:World)(hr:Rd .u32 w w.heap.size A n (Ae m))(hnc:n≤c)(hc:c≤9223372036854775807) :
  Calls Tryz.prog 137 #[.bool neg,.slice A n c] w (RetInt w (sgn neg m)):=by
 have h:=Jq neg w hr (Nat.le_refl _) (Ai m) hnc hc;rw[An] at h;exact h
set_option maxRecDepth 100000 in
theorem Nt {s t:Bool}{A A':Option Addr}{n n' c c' a b:Nat}(w:World)(hr:Rd .u32 w w.heap.size A n (Ae a))(hr':Rd .u32 w w.heap.size A' n' (Ae b))(hn:n≤1099511627776)(hn':n'≤1099511627776) :
  Calls Tryz.prog 184 #[.bool s,.slice A n c,.bool t,.slice A' n' c'] w (RetInt w (sgn s a+sgn t b)):=by
 have al:=Ek w (.cells #[.bool false,.slice none 0 0] 24);have pn:=Pr.new w false none 0 0;by_cases hst:s=t
 ·subst hst
  have hz:sgn s a+sgn s b=sgn s (a+b):=by unfold sgn;cases s <;> simp <;> omega
  have hs:(s == s)=true:=by simp
  have ha:=fun W (h:Rd .u32 W W.heap.size A n (Ae a)) (h':Rd .u32 W W.heap.size A' n' (Ae b))=>Na (c:=c) (c':=c') W h h' (Ai a) (Ai b) hn hn'
  rw[hz];simp only[An] at ha;have HA:=Lib.hid ha;clear ha hz;generalize a+b=v at *;go_enter Tryz.func184,Tryz.ntmps184
  go_wp2_with fail
  refine (HA.out _ (hr.alloc' _) (hr'.alloc' _)).mono ?_;rintro e w1 ⟨A1,n1,c1,rfl,r1,h1,h1',b1⟩;have HW:=Lib.hid (Co s w1 r1 h1 h1');go_wp2_with fail
  refine HW.out.mono ?_;rintro e w2 ⟨neg,A2,n2,c2,rfl,ci,b2⟩;have p2:=(pn.call b1).call b2;obtain ⟨q0,q1,f0,f1,k0,k1⟩:=p2.all (.bool neg) (.slice A2 n2 c2);go_wp2
  ((try simp only[Exit.inBlock,Exit.then]);refine bodyPost_ret (by simp[results,Tryz.results184,go_sem,k0,k1];try rfl) rfl ?_)
  exact RetInt.stored ci p2 (AA (AA al b1) b2) (Nat.le_refl _)
 ·have hs:(s == t)=false:=by simp;exact hst
  have hc:=fun W (h:Rd .u32 W W.heap.size A n (Ae a)) (h':Rd .u32 W W.heap.size A' n' (Ae b))=>EO (c:=c) (c':=c') W h h' (by omega) (by omega)
  by_cases hab:b≤a
  ·have hz:sgn s a+sgn t b=sgn s (a - b):=by unfold sgn;cases s <;> cases t <;> simp at hst <;> simp <;> omega
   have hge:0≤BT a b:=Hc hab;have hl:n'≤n:=by rw[←hr.len,←hr'.len];exact JU hab
   have ha:=fun W (h:Rd .u32 W W.heap.size A n (Ae a)) (h':Rd .u32 W W.heap.size A' n' (Ae b))=>H0 (c:=c) (c':=c') W h h' (Ai a) (Ai b) hn hl (by rw[An,An];exact hab)
   rw[hz];simp only[An] at ha;have HA:=Lib.hid ha;have HC:=Lib.hid hc;clear ha hz hc;generalize a - b=v at *;generalize BT a b=cp at *;have hcd:decide (0≤cp)=true:=by simp;omega
   have hcd':decide (cp≥0)=true:=by simp;omega
   go_enter Tryz.func184,Tryz.ntmps184
   go_wp2_with fail
   refine (HC.out _ (hr.alloc' _) (hr'.alloc' _)).mono ?_;rintro e w1 ⟨rfl,hq1⟩;have b1:=BR hq1;clear hq1;go_wp2_with fail
   refine (HA.out _ ((hr.alloc' _).call b1) ((hr'.alloc' _).call b1)).mono ?_;rintro e w2 ⟨A1,n1,c1,rfl,r1,h1,h1',b2⟩;have HW:=Lib.hid (Co s w2 r1 h1 h1');go_wp2_with fail
   refine HW.out.mono ?_;rintro e w3 ⟨neg,A2,n2,c2,rfl,ci,b3⟩;have p2:=((pn.call b1).call b2).call b3;obtain ⟨q0,q1,f0,f1,k0,k1⟩:=p2.all (.bool neg) (.slice A2 n2 c2);go_wp2
   ((try simp only[Exit.inBlock,Exit.then]);refine bodyPost_ret (by simp[results,Tryz.results184,go_sem,k0,k1];try rfl) rfl ?_)
   exact RetInt.stored ci p2 (AA (AA (AA al b1) b2) b3) (Nat.le_refl _)
  ·have hz:sgn s a+sgn t b=sgn t (b - a):=by unfold sgn;cases s <;> cases t <;> simp at hst <;> simp <;> omega
   have hge:BT a b = -1:=Ha (by omega)
   have hl:n≤n':=by rw[←hr.len,←hr'.len];exact JU (by omega)
   have ha:=fun W (h:Rd .u32 W W.heap.size A n (Ae a)) (h':Rd .u32 W W.heap.size A' n' (Ae b))=>H0 (c:=c') (c':=c) W h' h (Ai b) (Ai a) hn' hl (by rw[An,An];omega)
   rw[hz];simp only[An] at ha;rw[hge] at hc;have HA:=Lib.hid ha;have HC:=Lib.hid hc;clear ha hz hc hge;generalize b - a=v at *;go_enter Tryz.func184,Tryz.ntmps184
   go_wp2_with fail
   refine (HC.out _ (hr.alloc' _) (hr'.alloc' _)).mono ?_;rintro e w1 ⟨rfl,hq1⟩;have b1:=BR hq1;clear hq1;go_wp2_with fail
   refine (HA.out _ ((hr.alloc' _).call b1) ((hr'.alloc' _).call b1)).mono ?_;rintro e w2 ⟨A1,n1,c1,rfl,r1,h1,h1',b2⟩;have HW:=Lib.hid (Co t w2 r1 h1 h1');go_wp2_with fail
   refine HW.out.mono ?_;rintro e w3 ⟨neg,A2,n2,c2,rfl,ci,b3⟩;have p2:=((pn.call b1).call b2).call b3;obtain ⟨q0,q1,f0,f1,k0,k1⟩:=p2.all (.bool neg) (.slice A2 n2 c2);go_wp2
   ((try simp only[Exit.inBlock,Exit.then]);refine bodyPost_ret (by simp[results,Tryz.results184,go_sem,k0,k1];try rfl) rfl ?_)
   exact RetInt.stored ci p2 (AA (AA (AA al b1) b2) b3) (Nat.le_refl _)
theorem AInt.sign_eq {w:World}{neg:Bool}{A:Option Addr}{n c:Nat}{z:Int}(h:AInt w neg A n c z):z=sgn neg z.natAbs:=by
 obtain ⟨ds,h1,h2,h3,h4,rfl⟩:=h;rw[Bw]
theorem Zj (ds:List Nat) : ∃ m,m≤ds.length∧(∀ j,m≤j→ds.getD j 0=0)∧(m=0∨ds.getD (m - 1) 0≠0):=by
 have h : ∀ k,k≤ds.length→(∀ j,k≤j→ds.getD j 0=0) → ∃ m,m≤ds.length∧(∀ j,m≤j→ds.getD j 0=0)∧(m=0∨ds.getD (m - 1) 0≠0):=by
  intro k;induction k with
  | zero=>intro h1 h2;exact ⟨0,h1,h2,.inl rfl⟩
  | succ k ih =>
   intro h1 h2;by_cases e:ds.getD k 0=0
   ·refine ih (by omega) (fun j hj => ?_)
    by_cases e2:j=k
    ·rw[e2];exact e
    ·exact h2 j (by omega)
   ·exact ⟨k+1,h1,h2,.inr e⟩
 exact h ds.length (Nat.le_refl _) (fun j hj=>by rw[List.getD_eq_getElem?_getD,List.getElem?_eq_none hj];rfl)
theorem Pr.far {w:World}{g g':Nat}{s:Bool}{A:Option Addr}{n c:Nat}(h:Pr w g s A n c)(hne:g≠g')(u v:Value):Pr ((w.setCell ⟨g',0,none⟩ u).setCell ⟨g',1,none⟩ v) g s A n c :=
 ((Below.heap_setCell _ _ _ g hne).trans (Below.heap_setCell _ _ _ g hne)).trans h
theorem Pr.cells {w:World}{g g':Nat}{s t:Bool}{A A':Option Addr}{n c n' c':Nat}(h:Pr w g s A n c)(h':Pr w g' t A' n' c'):w.cell? ⟨g,0,none⟩=some (.bool s)∧w.cell? ⟨g,1,none⟩=some (.slice A n c)∧w.cell? ⟨g',0,none⟩=some (.bool t)∧w.cell? ⟨g',1,none⟩=some (.slice A' n' c'):=⟨h.cell0,h.cell1,h'.cell0,h'.cell1⟩
theorem CO (w:World)(o:Obj):(w.alloc o).heap.size=w.heap.size+1:=by simp
theorem MT (w:World)(s t:Bool)(A A':Option Addr)(n n' c c':Nat) : ∃ W,W=((w.alloc (.cells #[.bool s,.slice A n c] 24)).alloc (.cells #[.bool t,.slice A' n' c'] 24)).alloc (.cells #[.bool false,.slice none 0 0] 24) ∧
  Below w.heap.size w W∧Pr W w.heap.size s A n c∧Pr W (w.heap.size+1) t A' n' c'∧Pr W (w.heap.size+1+1) false none 0 0:=by
 refine ⟨_,rfl,AA (AA (Ek w _) (Ek _ _)) (Ek _ _),((Pr.new w s A n c).alloc _).alloc _,?_,?_⟩
 ·have h:=(Pr.new (w.alloc (.cells #[.bool s,.slice A n c] 24)) t A' n' c').alloc (.cells #[.bool false,.slice none 0 0] 24)
  rw[CO] at h;exact h
 ·have h:=Pr.new ((w.alloc (.cells #[.bool s,.slice A n c] 24)).alloc (.cells #[.bool t,.slice A' n' c'] 24)) false none 0 0
  rw[CO,CO] at h;exact h
theorem AInt.still {w:World}{neg:Bool}{A:Option Addr}{n c:Nat}{z:Int}(h:AInt w neg A n c z) :
  ∃ m,m≤n∧Rd .u32 w w.heap.size A m (Ae z.natAbs)∧Hid (∀ W,Below w.heap.size w W→Calls Tryz.prog 132 #[.slice A n c] W (fun e w''=>e = .returned (.slice A m m)∧w''=W)):=by
 obtain ⟨ds,h1,h2,h3,h4,rfl⟩:=h;rw[Bw];have hl:(Ae (val ds)).length≤n:=by
  have:=B6 (BP h2);rw[h1.len] at this;exact this
 have ht:ds.take (Ae (val ds)).length=Ae (val ds):=by
  obtain ⟨m,hm,hz,hlst⟩:=Zj ds;have hd:=DN ds h2 m hm hz hlst;rw[←hd,List.length_take,Nat.min_eq_left hm]
 refine ⟨_,hl,?_,fun W hb=>(Cx W (h1.below hb) h2 h3 h4).mono ?_⟩
 ·have:=h1.take hl;rw[ht] at this;exact this
 ·rintro e w1 ⟨m,hm,ht',rfl,rfl⟩
  have:m=(Ae (val ds)).length:=by rw[←ht',List.length_take];omega
  subst this;exact ⟨rfl,rfl⟩
set_option maxRecDepth 100000 in
theorem AaD {s t:Bool}{A A':Option Addr}{n n' c c':Nat}{x y:Int}(w:World)(ha:AInt w s A n c x)(hb:AInt w t A' n' c' y)(hn:n≤1099511627776)(hn':n'≤1099511627776) :
  Calls Tryz.prog 145 #[.agg #[.bool s,.slice A n c],.agg #[.bool t,.slice A' n' c']] w (RetInt w (x+y)):=by
 have hx:=ha.sign_eq;have hy:=hb.sign_eq;obtain ⟨m,hm,r,HA⟩:=ha.still;obtain ⟨m',hm',r',HB⟩:=hb.still;rw[hx,hy];clear hx hy ha hb;generalize x.natAbs=a at *;generalize y.natAbs=b at *;have HS:=Lib.hid (fun W h h'=>Nt (s:=s) (t:=t) (A:=A) (A':=A') (n:=m) (n':=m') (c:=m) (c':=m') (a:=a) (b:=b) W h h' (by omega) (by omega))
 generalize sgn s a+sgn t b=z at *;obtain ⟨W,hW,bW,pa,pb,pr⟩:=MT w s t A A' n n' c c';have a0:=pa.cell0;have a1:=pa.cell1;have b0:=pb.cell0;have b1:=pb.cell1;go_enter Tryz.func145,Tryz.ntmps145
 go_wp2_with fail
 rw[←hW];clear hW
 go_still_tail 10,(by kernel_rfl)
 still_call (HA.out _ bW.drew)
 repeat still_step
 still_call (HB.out _ bW.drew)
 repeat still_step
 refine wpStill_nil ?_
 change wpList _ _ _ _ _ W.drew
 have bX:=bW.drew;have pX:=pr.drew;clear pa pb a0 a1 b0 b1 bW pr;generalize W.drew=X at *;go_wp2_with fail
 refine (HS.out _ (r.call bX) (r'.call bX)).mono ?_;rintro e w2 ⟨neg,A2,n2,c2,rfl,ci,b2⟩;have p2:=pX.call b2;have bZ:=AA bX b2;obtain ⟨q0,q1,f0,f1,k0,k1⟩:=p2.all (.bool neg) (.slice A2 n2 c2);go_wp2
 ((try simp only[Exit.inBlock,Exit.then]);refine bodyPost_ret (by simp[results,Tryz.results145,go_sem,k0,k1];try rfl) rfl ?_)
 exact RetInt.stored ci p2 bZ (by omega)
set_option maxRecDepth 100000 in
theorem ZL {s t:Bool}{A A':Option Addr}{n n' c c':Nat}{x y:Int}(w:World)(ha:AInt w s A n c x)(hb:AInt w t A' n' c' y)(hn:n≤1099511627776)(hn':n'≤1099511627776) :
  Calls Tryz.prog 146 #[.agg #[.bool s,.slice A n c],.agg #[.bool t,.slice A' n' c']] w (RetInt w (x*y)):=by
 have hx:=ha.sign_eq;have hy:=hb.sign_eq;obtain ⟨m,hm,r,HA⟩:=ha.still;obtain ⟨m',hm',r',HB⟩:=hb.still;have hz:x*y=sgn (!(s == t)) (x.natAbs*y.natAbs):=by
  rw[hx,hy,Bw,Bw];unfold sgn;cases s <;> cases t <;> simp[Int.neg_mul,Int.mul_neg]
 rw[hz];clear hx hy ha hb hz;generalize x.natAbs=a at *;generalize y.natAbs=b at *;have HS:=Lib.hid (fun W h h'=>Sw (A:=A) (A':=A') (n:=m) (n':=m') (c:=m) (c':=m') (a:=a) (b:=b) W h h' (by omega) (by omega))
 generalize a*b=z at *;obtain ⟨W,hW,bW,pa,pb,pr⟩:=MT w s t A A' n n' c c';have a0:=pa.cell0;have a1:=pa.cell1;have b0:=pb.cell0;have b1:=pb.cell1;go_enter Tryz.func146,Tryz.ntmps146
 go_wp2_with fail
 rw[←hW];clear hW;have y0:=pa.drew.cells pb.drew
 go_region_held3 (fun w'=>w'.cell? ⟨w.heap.size,0,none⟩=some (.bool s)∧w'.cell? ⟨w.heap.size,1,none⟩=some (.slice A n c)∧w'.cell? ⟨w.heap.size+1,0,none⟩=some (.bool t)∧w'.cell? ⟨w.heap.size+1,1,none⟩=some (.slice A' n' c'))
  (first | exact y0 | exact y1 | exact y2 | exact y3)
  ((first
   | (go_at_call 132;(with_reducible refine (HA.out _ bW.drew).mono ?_);rintro e wq ⟨rfl,rfl⟩)
   | (go_at_call 132;(with_reducible refine (HB.out _ bW.drew).mono ?_);rintro e wq ⟨rfl,rfl⟩)
   | (go_at_call 185;(with_reducible refine (HS.out _ (r.call bW.drew) (r'.call bW.drew)).mono ?_);rintro e w1 ⟨A1,n1,c1,rfl,r1,h1,h1',d1⟩;have pa1:=pa.drew.call d1;have pb1:=pb.drew.call d1;have y1:=pa1.cells pb1)
   | (go_at_call 137;(with_reducible refine (Co (!(s == t)) _ r1 h1 h1').mono ?_);rintro e w2 ⟨neg,A2,n2,c2,rfl,ci,d2⟩;have pa2:=pa1.call d2;have pb2:=pb1.call d2;have y2:=pa2.cells pb2;have y3:=(pa2.far (g':=w.heap.size+1+1) (by omega) (.bool neg) (.slice A2 n2 c2)).cells (pb2.far (g':=w.heap.size+1+1) (by omega) (.bool neg) (.slice A2 n2 c2));have p2:=(pr.drew.call d1).call d2;obtain ⟨q0,q1,f0,f1,k0,k1⟩:=p2.all (.bool neg) (.slice A2 n2 c2))))
 have bZ:=AA (AA bW.drew d1) d2;go_wp2
 ((try simp only[Exit.inBlock,Exit.then]);refine bodyPost_ret (by simp[results,Tryz.results146,go_sem,k0,k1];try rfl) rfl ?_)
 exact RetInt.stored ci p2 bZ (by omega)
theorem SX (w:World)(s:Bool)(A:Option Addr)(n c:Nat) : ∃ W,W=(w.alloc (.cells #[.bool s,.slice A n c] 24)).alloc (.cells #[.bool false,.slice none 0 0] 24) ∧
  Below w.heap.size w W∧Pr W w.heap.size s A n c∧Pr W (w.heap.size+1) false none 0 0:=by
 refine ⟨_,rfl,AA (Ek w _) (Ek _ _),(Pr.new w s A n c).alloc _,?_⟩;have h:=Pr.new (w.alloc (.cells #[.bool s,.slice A n c] 24)) false none 0 0;rw[CO] at h;exact h
theorem Pr.cells1 {w:World}{g:Nat}{s:Bool}{A:Option Addr}{n c:Nat}(h:Pr w g s A n c):w.cell? ⟨g,0,none⟩=some (.bool s)∧w.cell? ⟨g,1,none⟩=some (.slice A n c):=⟨h.cell0,h.cell1⟩
set_option maxRecDepth 100000 in
theorem Ss {s:Bool}{A:Option Addr}{n c:Nat}{x:Int}(w:World)(ha:AInt w s A n c x)(hn:n≤1099511627776) :
  Calls Tryz.prog 127 #[.agg #[.bool s,.slice A n c]] w (RetInt w (-x)):=by
 have hx:=ha.sign_eq;obtain ⟨m,hm,r,HA⟩:=ha.still;have hz : -x=sgn (!s) x.natAbs:=by rw[hx,Bw];unfold sgn;cases s <;> simp
 rw[hz];clear ha hx hz;generalize x.natAbs=a at *;have HC:=Lib.hid (fun W h=>FG (c:=m) (A:=A) (n:=m) (xs:=Ae a) W h (by omega))
 obtain ⟨W,hW,bW,pa,pr⟩:=SX w s A n c;have a0:=pa.cell0;have a1:=pa.cell1;go_enter Tryz.func127,Tryz.ntmps127
 go_wp2_with fail
 rw[←hW];clear hW;have y0:=pa.drew.cells1
 go_region_held3 (fun w'=>w'.cell? ⟨w.heap.size,0,none⟩=some (.bool s)∧w'.cell? ⟨w.heap.size,1,none⟩=some (.slice A n c))
  (first | exact y0 | exact y1 | exact y2 | exact y3)
  ((first
   | (go_at_call 132;(with_reducible refine (HA.out _ bW.drew).mono ?_);rintro e wq ⟨rfl,rfl⟩)
   | (go_at_call 131;(with_reducible refine (HC.out _ (r.call bW.drew)).mono ?_);rintro e w1 ⟨v1,rfl,o1⟩;obtain ⟨A1,n1,c1,rfl,r1,h1,h1'⟩:=o1.form';have d1:=o1.2;have pa1:=pa.drew.call d1;have y1:=pa1.cells1)
   | (go_at_call 137;(with_reducible refine (Co (!s) _ r1 h1 h1').mono ?_);rintro e w2 ⟨neg,A2,n2,c2,rfl,ci,d2⟩;have pa2:=pa1.call d2;have y2:=pa2.cells1;have y3:=(pa2.far (g':=w.heap.size+1) (by omega) (.bool neg) (.slice A2 n2 c2)).cells1;have p2:=(pr.drew.call d1).call d2;obtain ⟨q0,q1,f0,f1,k0,k1⟩:=p2.all (.bool neg) (.slice A2 n2 c2))))
 have bZ:=AA (AA bW.drew d1) d2;go_wp2
 ((try simp only[Exit.inBlock,Exit.then]);refine bodyPost_ret (by simp[results,Tryz.results127,go_sem,k0,k1];try rfl) rfl ?_)
 exact RetInt.stored ci p2 bZ (by omega)
set_option maxRecDepth 100000 in
theorem Nn (k:Int)(w:World)(h1 : -9223372036854775808≤k)(h2:k≤9223372036854775807):Calls Tryz.prog 99 #[.int .i64 k] w (RetInt w k):=by
 have al:=Ek w (.cells #[.bool false,.slice none 0 0] 24);have pn:=Pr.new w false none 0 0;by_cases h0:k < 0
 ·have hd:decide (k < 0)=true:=by simp;omega
  have HF:=Lib.hid (fun W=>Cr k.natAbs W (by omega))
  have e1:IntKind.u64.wrap (-IntKind.u64.wrap k)=(k.natAbs:Int):=by rw[IntKind.wrap_u64];(try rw[IntKind.wrap_u64]);omega
  have hz:Hid (sgn true k.natAbs=k):=by unfold Hid sgn;simp;omega
  clear h1 h2;generalize k.natAbs=v at *;go_enter Tryz.func99,Tryz.ntmps99
  go_wp2_with fail
  try rw[e1]
  with_reducible refine (HF.out _).mono ?_
  rintro e w1 ⟨A1,n1,c1,rfl,r1,h1,h1',b1⟩;have HW:=Lib.hid (Co true w1 r1 h1 h1');go_wp2_with fail
  with_reducible refine HW.out.mono ?_
  rintro e w2 ⟨neg,A2,n2,c2,rfl,ci,b2⟩;have p2:=(pn.call b1).call b2;obtain ⟨q0,q1,f0,f1,k0,k1⟩:=p2.all (.bool neg) (.slice A2 n2 c2);go_wp2
  ((try simp only[Exit.inBlock,Exit.then]);refine bodyPost_ret (by simp[results,Tryz.results99,go_sem,k0,k1];try rfl) rfl ?_)
  rw[←hz.out];exact RetInt.stored ci p2 (AA (AA al b1) b2) (Nat.le_refl _)
 ·have hd:decide (k < 0)=false:=by simp;omega
  have HF:=Lib.hid (fun W=>Cr k.natAbs W (by omega))
  have e1:IntKind.u64.wrap k=(k.natAbs:Int):=by rw[IntKind.wrap_u64];(try rw[IntKind.wrap_u64]);omega
  have hz:Hid (sgn false k.natAbs=k):=by unfold Hid sgn;simp;omega
  clear h1 h2;generalize k.natAbs=v at *;go_enter Tryz.func99,Tryz.ntmps99
  go_wp2_with fail
  try rw[e1]
  with_reducible refine (HF.out _).mono ?_
  rintro e w1 ⟨A1,n1,c1,rfl,r1,h1,h1',b1⟩;have HW:=Lib.hid (Co false w1 r1 h1 h1');go_wp2_with fail
  with_reducible refine HW.out.mono ?_
  rintro e w2 ⟨neg,A2,n2,c2,rfl,ci,b2⟩;have p2:=(pn.call b1).call b2;obtain ⟨q0,q1,f0,f1,k0,k1⟩:=p2.all (.bool neg) (.slice A2 n2 c2);go_wp2
  ((try simp only[Exit.inBlock,Exit.then]);refine bodyPost_ret (by simp[results,Tryz.results99,go_sem,k0,k1];try rfl) rfl ?_)
  rw[←hz.out];exact RetInt.stored ci p2 (AA (AA al b1) b2) (Nat.le_refl _)
theorem Ul (w:World)(s t:Bool)(A A':Option Addr)(n n' c c':Nat) : ∃ W,W=(w.alloc (.cells #[.bool s,.slice A n c] 24)).alloc (.cells #[.bool t,.slice A' n' c'] 24) ∧
  Below w.heap.size w W∧Pr W w.heap.size s A n c∧Pr W (w.heap.size+1) t A' n' c':=by
 refine ⟨_,rfl,AA (Ek w _) (Ek _ _),(Pr.new w s A n c).alloc _,?_⟩;have h:=Pr.new (w.alloc (.cells #[.bool s,.slice A n c] 24)) t A' n' c';rw[CO] at h;exact h
def Eg (x y:Int):Int:=if x < y then -1 else if x=y then 0 else 1
theorem AaO (a:Nat):sgn true a = -(a:Int):=rfl
theorem Wz (a:Nat):sgn false a=(a:Int):=rfl
theorem SN {a b:Nat}(h:Ae a=Ae b):a=b:=by rw[←An a,h,An]
theorem Qa {xs ys:List Nat}(hl:xs.length=ys.length)(h:xs.take xs.length=ys.take xs.length):xs=ys:=by
 rw[List.take_of_length_le (Nat.le_refl _),List.take_of_length_le (by omega)] at h;exact h
theorem Zo {xs ys:List Nat}{k:Nat}(h:xs.getD k 0≠ys.getD k 0):xs≠ys:=fun e=>h (by rw[e])
set_option maxHeartbeats 1000000 in
set_option maxRecDepth 100000 in
theorem Ql {s t : Bool} {A A' : Option Addr} {n n' c c' : Nat} {x y : Int} (w : World) (ha : CInt w s A n c x) (hb : CInt w t A' n' c' y) :
  Calls Tryz.prog 107 #[.agg #[.bool s,.slice A n c],.agg #[.bool t,.slice A' n' c']] w (Gk w (.bool (decide (x=y)))):=by
 obtain ⟨r,hs,hc1,hc2⟩:=ha;obtain ⟨r',ht,hc1',hc2'⟩:=hb;have HL:=Lib.hid r.len;have HL':=Lib.hid r'.len;have K:Hid (s=t→Ae x.natAbs=Ae y.natAbs→x=y):=by
  intro h1 h2;have h3:=SN h2;rw[hs,ht] at h1;by_cases hx:x < 0
  ·have:y < 0:=by simpa [hx] using h1
   omega
  ·have : ¬ y < 0:=by simpa [hx] using h1
   omega
 have K1:Hid (s≠t→x≠y):=fun h e=>h (by rw[hs,ht,e])
 have K2:Hid (Ae x.natAbs≠Ae y.natAbs→x≠y):=fun h e=>h (by rw[e])
 obtain ⟨W,hW,bW,pa,pb⟩:=Ul w s t A A' n n' c c';obtain ⟨a0,a1,b0,b1⟩:=pa.cells pb;replace r:=r.call bW
 replace r':=r'.call bW
 have hnb:n≤9223372036854775807:=by omega
 clear hs ht hc1 hc1' hc2 hc2';generalize Ae x.natAbs=xs at *;generalize Ae y.natAbs=ys at *;obtain ⟨fin,hfin⟩ : ∃ fin,fin=decide (x=y):=⟨_,rfl⟩;rw[←hfin];have HF:=Lib.hid hfin;clear hfin;by_cases hst:s=t
 ·subst hst
  by_cases hnn:n=n'
  ·subst hnn
   go_enter Tryz.func107,Tryz.ntmps107
   go_wp2_with fail
   rw[←hW];clear hW;go_wp2_with fail
   go_loopw [5] (fun i wr => ∃ k:Nat,k≤n∧i = .int .i64 (k:Int)∧Hid (xs.take k=ys.take k) ∧ ∃ q,Hid (wr=W.drewN q)) (fun i _=>n - (intOf i).toNat)
   case atStart=>exact ⟨0,by omega,rfl,rfl,0,rfl⟩
   case round =>
    obtain ⟨k,hk,rfl,HE,q,hw⟩:=hrel;have hw':=hw.out;subst hw';clear hw;by_cases h0:k < n
    ·obtain ⟨b1',o1,rfl,_,hc1⟩:=r.at_ (j:=k) h0
     obtain ⟨b2',o2,rfl,_,hc2⟩:=r'.at_ (j:=k) h0;have HT:Hid (xs.getD k 0=ys.getD k 0→xs.take (k+1)=ys.take (k+1)):=by
      intro e;rw[Cy xs k (by rw[HL.out];exact h0),Cy ys k (by rw[HL'.out];exact h0),HE.out,e]
     have HN:Hid (xs.getD k 0≠ys.getD k 0→fin=false):=fun e=>by rw[HF.out];simpa using K2.out (Zo e)
     generalize xs.getD k 0=u at *;generalize ys.getD k 0=v at *;have i1:(0:Int)≤(k:Int):=by omega
     have i2:(k:Int) < (n:Int):=by omega
     by_cases e:u=v
     ·have eb:((u:Int) != (v:Int))=false:=by simp[e]
      have HE2:=Lib.hid (HT.out e);clear e;go_wp2
      go_quiet (fail)
      go_wp2
      go_roundw
      case rel=>exact ⟨k+1,by omega,by go_num,HE2,_,rfl⟩
      case measure=>simp[intOf] <;> omega
     ·have eb:((u:Int) != (v:Int))=true:=by simp;omega
      have HN2:=Lib.hid (HN.out e);clear e;go_wp2
      go_quiet (fail)
      go_wp2
      go_ret
      exact ⟨by rw[HN2.out];rfl,AA (AA bW (CM _ _)) (CM _ _)⟩
    ·obtain rfl:k=n:=by omega
     have HF2:Hid (fin=true):=by
      unfold Hid;rw[HF.out];have:=HE.out;rw[←HL.out] at this
      simpa using K.out (by simp) (Qa (by rw[HL.out,HL'.out]) this)
     go_wp2
     go_ret
     exact ⟨by rw[HF2.out];rfl,AA bW (CM _ _)⟩
  ·have HF2:Hid (fin=false):=by
    unfold Hid;rw[HF.out]
    simpa using K2.out (fun e=>hnn (by rw[←HL.out,←HL'.out,e]))
   have hne:((n:Int) != (n':Int))=true:=by simp;omega
   go_enter Tryz.func107,Tryz.ntmps107
   go_wp2_with fail
   rw[←hW];clear hW;go_wp2
   go_ret
   exact ⟨by rw[HF2.out];rfl,bW⟩
 ·have HF2:Hid (fin=false):=by
   unfold Hid;rw[HF.out]
   simpa using K1.out hst
  have hne:(s == t)=false:=by simpa using hst
  go_enter Tryz.func107,Tryz.ntmps107
  go_wp2_with fail
  rw[←hW];clear hW;go_wp2
  go_ret
  exact ⟨by rw[HF2.out];rfl,bW⟩
theorem Py {x y q r:Int}(hy:y≠0)(h:x=y*q+r)(hr:(0 < y→0≤r∧r < y)∧(y < 0→y < r∧r≤0)):x.fdiv y=q∧x.fmod y=r:=by
 rcases Int.lt_or_gt_of_ne hy with h0 | h0
 ·have ⟨h1,h2⟩:=hr.2 h0
  have e:(-x).fdiv (-y)=q∧(-x).fmod (-y) = -r:=by
   rw[Int.fdiv_eq_ediv_of_nonneg _ (by omega),Int.fmod_eq_emod_of_nonneg _ (by omega)]
   exact (Int.ediv_emod_unique (by omega)).2 ⟨by rw[h,Int.neg_mul];omega,by omega,by omega⟩
  have m1:x.fmod y+y*x.fdiv y=x:=Int.fmod_add_mul_fdiv x y;rw[Int.neg_fdiv_neg] at e;refine ⟨e.1,?_⟩;rw[e.1] at m1;omega
 ·have ⟨h1,h2⟩:=hr.1 h0
  rw[Int.fdiv_eq_ediv_of_nonneg _ (by omega),Int.fmod_eq_emod_of_nonneg _ (by omega)]
  exact (Int.ediv_emod_unique h0).2 ⟨by omega,h1,h2⟩
theorem Gb {s t:Bool}{a b:Nat}(hb:0 < b) :
  (sgn s a).fdiv (sgn t b)=(if 0 < a % b∧s≠t then sgn (!(s == t)) (a / b+1) else sgn (!(s == t)) (a / b)) ∧
  (sgn s a).fmod (sgn t b)=(if 0 < a % b∧s≠t then sgn t (b - a % b) else sgn t (a % b)):=by
 have h1:=Nat.div_add_mod a b;have h2:=Nat.mod_lt a hb;generalize a / b=q at *;generalize a % b=r at *;have h1':(b:Int)*q+r=a:=by rw[←h1];simp
 have h3:(b:Int)*(q+1)=b*q+b:=by rw[Int.mul_add,Int.mul_one]
 generalize hm:(b:Int)*q=m at *;apply Py
 ·cases t <;> simp[sgn] <;> omega
 ·cases s <;> cases t <;> simp[sgn] <;> (try split) <;> simp[Int.neg_mul,Int.mul_neg,hm,h3] <;> omega
 ·cases s <;> cases t <;> simp[sgn] <;> (try split) <;> constructor <;> intro _ <;> omega
theorem Acz (w:World)(s t:Bool)(A A':Option Addr)(n n' c c':Nat) : ∃ W,W=(((w.alloc (.cells #[.bool s,.slice A n c] 24)).alloc (.cells #[.bool t,.slice A' n' c'] 24)).alloc (.cells #[.bool false,.slice none 0 0] 24)).alloc (.cells #[.bool false,.slice none 0 0] 24) ∧
  Below w.heap.size w W∧Pr W w.heap.size s A n c∧Pr W (w.heap.size+1) t A' n' c'∧Pr W (w.heap.size+1+1) false none 0 0∧Pr W (w.heap.size+1+1+1) false none 0 0:=by
 obtain ⟨W,hW,h1,h2,h3,h4⟩:=MT w s t A A' n n' c c';refine ⟨_,rfl,?_⟩;rw[←hW];refine ⟨AA h1 (Ek _ _),h2.alloc _,h3.alloc _,h4.alloc _,?_⟩;have h:=Pr.new W false none 0 0;have hs:W.heap.size=w.heap.size+1+1+1:=by rw[hW,CO,CO,CO]
 rw[hs] at h;exact h
theorem Pr.bools {w:World}{g g':Nat}{s t:Bool}{A A':Option Addr}{n c n' c':Nat}(h:Pr w g s A n c)(h':Pr w g' t A' n' c'):w.cell? ⟨g,0,none⟩=some (.bool s)∧w.cell? ⟨g',0,none⟩=some (.bool t):=⟨h.cell0,h'.cell0⟩
def Abi (w:World)(x y:Int)(e:Ending)(w':World):Prop :=
 ∃ s1 A1 n1 c1 s2 A2 n2 c2,∃ code:Int,e = .returned (.tuple #[.agg #[.bool s1,.slice A1 n1 c1],.agg #[.bool s2,.slice A2 n2 c2],.int .i64 code]) ∧
  CInt w' s1 A1 n1 c1 (x.fdiv y)∧CInt w' s2 A2 n2 c2 (if y=0 then 0 else x.fmod y)∧code=(if y=0 then 11 else 0)∧Below w.heap.size w w'
set_option maxHeartbeats 1000000 in
set_option maxRecDepth 100000 in
theorem SL {s t : Bool} {A A' : Option Addr} {n n' c c' : Nat} {x y : Int} (w : World) (ha : AInt w s A n c x) (hb : AInt w t A' n' c' y) (hn : n ≤ 549755813888) (hn' : n' ≤ 549755813888) :
  Calls Tryz.prog 130 #[.agg #[.bool s,.slice A n c],.agg #[.bool t,.slice A' n' c']] w (Abi w x y):=by
 have hx:=ha.sign_eq;have hy:=hb.sign_eq;obtain ⟨m,hm,r,HA⟩:=ha.still;obtain ⟨m',hm',r',HB⟩:=hb.still;rw[hx,hy];clear hx hy ha hb;generalize x.natAbs=a at *;generalize y.natAbs=b at *;have kb:m'=0↔b=0:=by rw[←r'.len];exact AQ b
 obtain ⟨W,hW,bW,pa,pb,pq,pr⟩:=Acz w s t A A' n n' c c';have y0:=pa.drew.cells pb.drew;go_enter Tryz.func130,Tryz.ntmps130
 go_wp2_with fail
 rw[←hW];clear hW
 go_region_held3 (fun w'=>w'.cell? ⟨w.heap.size,0,none⟩=some (.bool s)∧w'.cell? ⟨w.heap.size,1,none⟩=some (.slice A n c)∧w'.cell? ⟨w.heap.size+1,0,none⟩=some (.bool t)∧w'.cell? ⟨w.heap.size+1,1,none⟩=some (.slice A' n' c'))
  (exact y0)
  ((first
   | (go_at_call 132;(with_reducible refine (HA.out _ bW.drew).mono ?_);rintro e wq ⟨rfl,rfl⟩)
   | (go_at_call 132;(with_reducible refine (HB.out _ bW.drew).mono ?_);rintro e wq ⟨rfl,rfl⟩)))
 replace bW:=bW.drew
 replace pa:=pa.drew
 replace pb:=pb.drew
 replace pq:=pq.drew
 replace pr:=pr.drew
 generalize W.drew=X at *;have bX:=bW;clear bW;have rX:=r.call bX;have rX':=r'.call bX;clear HA HB r r' y0;obtain ⟨a0,a1,b0,b1⟩:=pa.cells pb;by_cases hb0:m'=0
 ·obtain rfl:=kb.1 hb0
  subst hb0;have P1:=pq.stored (s':=false) (A':=none) (n':=0) (c':=0);have P2:=(pr.far (g':=w.heap.size+1+1) (by omega) (.bool false) (.slice none 0 0)).stored (s':=false) (A':=none) (n':=0) (c':=0)
  have P3:=P1.far (g':=w.heap.size+1+1+1) (by omega) (.bool false) (.slice none 0 0)
  obtain ⟨q0,q1,f0,f1,k0,k1⟩:=pq.all (.bool false) (.slice none 0 0);obtain ⟨q0',q1',f0',f1',k0',k1'⟩:=(pr.far (g':=w.heap.size+1+1) (by omega) (.bool false) (.slice none 0 0)).all (.bool false) (.slice none 0 0)
  have v0:=P3.cell0;have v1:=P3.cell1;go_wp2
  refine bodyPost_ret (v := .tuple #[.agg #[.bool false,.slice none 0 0],.agg #[.bool false,.slice none 0 0],.int .i64 11]) (by simp[results,Tryz.results130,go_sem,k0',k1',v0,v1]) rfl ?_
  rw[Gv];exact ⟨_,_,_,_,_,_,_,_,_,rfl,by simpa using CInt.zero _,by simpa using CInt.zero _,by simp,AC (AC bX (by omega) _ _) (by omega) _ _⟩
 ·have hb1 : 0 < b := by rcases Nat.eq_zero_or_pos b with h | h; exact absurd (kb.2 h) hb0; exact h
  have hne:((m':Int) == 0)=false:=by simp;omega
  have hty : ¬ sgn t b=0:=by unfold sgn;cases t <;> simp <;> omega
  have HD:=Lib.hid (Jj (c:=m) (c':=m') X rX rX' (by omega) (by omega) hb1)
  obtain ⟨fd,fm⟩:=Gb (s:=s) (t:=t) (a:=a) hb1;have HF:=Lib.hid fd;have HM:=Lib.hid fm;have HTY:=Lib.hid hty;have hrb:a % b < b:=Nat.mod_lt _ hb1;have hql:(Ae (a / b)).length≤m:=by rw[←rX.len];exact AW (Nat.div_le_self _ _)
  have hrl:(Ae (a % b)).length≤m':=by rw[←rX'.len];exact AW (Nat.le_of_lt hrb)
  clear fd fm hty;generalize a / b=qq at *;generalize a % b=rr at *;go_wp2_with fail
  refine HD.out.mono ?_;rintro e w2 ⟨A4,n4,c4,A5,n5,c5,rfl,r4,r5,h4,h4',h5,h5',hb5⟩;have pa2:=pa.call hb5;have pb2:=pb.call hb5;have pq2:=pq.call hb5;have pr2:=pr.call hb5;have b2:=AA bX hb5;have ry2:=rX'.call hb5;have k5:n5=0↔rr=0:=by rw[←r5.len];exact AQ rr
  clear hb5 bX pa pb pq pr rX rX' HD a0 a1 b0 b1;obtain ⟨a0,a1,b0,b1⟩:=pa2.cells pb2;have hn4:n4≤m:=by rw[←r4.len];exact hql
  have hn5:n5≤m':=by rw[←r5.len];exact hrl
  clear hql hrl;by_cases hadj:0 < n5∧s≠t
  ·have hst:(s == t)=false:=by simp;exact hadj.2
   have hst' : ¬ s=t:=hadj.2;have hn5':=hadj.1;have hr0:0 < rr:=by rcases Nat.eq_zero_or_pos rr with h | h;have:=k5.2 h;omega;exact h
   have HQ:Hid ((sgn s a).fdiv (sgn t b)=sgn (!(s == t)) (qq+1)):=by unfold Hid;rw[HF.out,if_pos ⟨hr0,hst'⟩]
   have HR:Hid ((sgn s a).fmod (sgn t b)=sgn t (b - rr)):=by unfold Hid;rw[HM.out,if_pos ⟨hr0,hst'⟩]
   have hgt:decide (0 < (n5:Int))=true:=by simp;omega
   rw[hst,Bool.not_false] at HQ;have HA:=Lib.hid (fun W B h h'=>Na (c:=c4) (c':=1) (A:=A4) (A':=B) (n:=n4) (n':=1) (xs:=Ae qq) (ys:=[1]) W h h' (Ai qq) (W32.mk (by omega) W32.nil) (by omega) (by omega))
   have HS:=Lib.hid (fun W h h'=>H0 (c:=m') (c':=c5) (A:=A') (A':=A5) (n:=m') (n':=n5) (xs:=Ae b) (ys:=Ae rr) W h h' (Ai b) (Ai rr) (by omega) hn5 (by rw[An,An];omega))
   simp only[An] at HS HA;clear hadj hst' k5;go_wp2_with fail
   refine (HA.out _ _ (r4.alloc' _) ((Rd.one .u32 w2 _ rfl).more (by simp))).mono ?_
   rintro e w3 ⟨A6,n6,c6,rfl,r6,h6,h6',hb6⟩;have b6:=AA (Ek w2 (.cells #[.int .u32 1] 97)) hb6;have ry3:=ry2.call b6;have r53:=r5.call b6;replace pa2:=pa2.call b6
   replace pb2:=pb2.call b6
   replace pq2:=pq2.call b6
   replace pr2:=pr2.call b6
   replace b2:=AA b2 b6
   clear HA a0 a1 b0 b1 r4 r5 ry2 hb6 b6;go_wp2_with fail
   refine (HS.out _ ry3 r53).mono ?_;rintro e w4 ⟨A7,n7,c7,rfl,r7,h7,h7',b7⟩;replace pa2:=pa2.call b7
   replace pb2:=pb2.call b7
   replace pq2:=pq2.call b7
   replace pr2:=pr2.call b7
   replace b2:=AA b2 b7
   replace r6:=r6.call b7
   clear HS ry3 r53 b7;go_wp2_with fail
   have y0:=pa2.drew.bools pb2.drew
   go_region_held3 (fun w'=>w'.cell? ⟨w.heap.size,0,none⟩=some (.bool s)∧w'.cell? ⟨w.heap.size+1,0,none⟩=some (.bool t))
    (first | (with_reducible exact y0) | (with_reducible exact y1) | (with_reducible exact y2) | (with_reducible exact y3) | (with_reducible exact y4))
    ((first
     | (go_at_call 137;(with_reducible refine (Co true _ r6.drew h6 h6').mono ?_);rintro e u1 ⟨s8,A8,n8,c8,rfl,i8,d8⟩;have pa3:=pa2.drew.call d8;have pb3:=pb2.drew.call d8;have pq3:=pq2.drew.call d8;have pr3:=pr2.drew.call d8;have y1:=pa3.bools pb3;have r71:=r7.drew.call d8)
     | (go_at_call 137;(with_reducible refine (Co t _ r71 h7 h7').mono ?_);rintro e u2 ⟨s9,A9,n9,c9,rfl,i9,d9⟩;have pa4:=pa3.call d9;have pb4:=pb3.call d9;have pq4:=pq3.call d9;have pr4:=pr3.call d9;have y2:=pa4.bools pb4;have i8':=i8.call d9;have pa5:=pa4.far (g':=w.heap.size+1+1) (by omega) (.bool s8) (.slice A8 n8 c8);have pb5:=pb4.far (g':=w.heap.size+1+1) (by omega) (.bool s8) (.slice A8 n8 c8);have y3:=pa5.bools pb5;have y4:=(pa5.far (g':=w.heap.size+1+1+1) (by omega) (.bool s9) (.slice A9 n9 c9)).bools (pb5.far (g':=w.heap.size+1+1+1) (by omega) (.bool s9) (.slice A9 n9 c9));have pr5:=pr4.far (g':=w.heap.size+1+1) (by omega) (.bool s8) (.slice A8 n8 c8);obtain ⟨q0,q1,f0,f1,k0,k1⟩:=pq4.all (.bool s8) (.slice A8 n8 c8);obtain ⟨q0',q1',f0',f1',k0',k1'⟩:=pr5.all (.bool s9) (.slice A9 n9 c9))))
   have bZ:=AA (AA b2.drew d8) d9;have z1:=(i8'.stored pq4 (.bool s8) (.slice A8 n8 c8)).stored pr5 (.bool s9) (.slice A9 n9 c9);have z2:=(i9.stored pq4 (.bool s8) (.slice A8 n8 c8)).stored pr5 (.bool s9) (.slice A9 n9 c9);obtain ⟨v0,v1⟩:=((pq4.stored (s':=s8) (A':=A8) (n':=n8) (c':=c8)).far (g':=w.heap.size+1+1+1) (by omega) (.bool s9) (.slice A9 n9 c9)).cells1
   go_wp2
   refine bodyPost_ret (v := .tuple #[.agg #[.bool s8,.slice A8 n8 c8],.agg #[.bool s9,.slice A9 n9 c9],.int .i64 0]) (by simp[results,Tryz.results130,go_sem,k0',k1',v0,v1]) rfl ?_
   exact ⟨_,_,_,_,_,_,_,_,_,rfl,by rw[HQ.out];exact z1,by rw[if_neg HTY.out,HR.out];exact z2,by rw[if_neg HTY.out],AC (AC bZ (by omega) _ _) (by omega) _ _⟩
  ·have HQ:Hid ((sgn s a).fdiv (sgn t b)=sgn (!(s == t)) qq):=by unfold Hid;rw[HF.out,if_neg (fun h=>hadj ⟨by rcases Nat.eq_zero_or_pos n5 with h5 | h5;have:=k5.1 h5;omega;exact h5,h.2⟩)]
   have HR:Hid ((sgn s a).fmod (sgn t b)=sgn t rr):=by unfold Hid;rw[HM.out,if_neg (fun h=>hadj ⟨by rcases Nat.eq_zero_or_pos n5 with h5 | h5;have:=k5.1 h5;omega;exact h5,h.2⟩)]
   have r6:=r4;have r7:=r5;have h6:=h4;have h6':=h4';have h7:=h5;have h7':=h5';clear r4 r5 h4 h4' h5 h5' k5 HF HM kb hne;by_cases hn5':n5=0
   ·subst hn5'
    clear hadj;go_wp2_with fail
    have y0:=pa2.drew.bools pb2.drew
    go_region_held3 (fun w'=>w'.cell? ⟨w.heap.size,0,none⟩=some (.bool s)∧w'.cell? ⟨w.heap.size+1,0,none⟩=some (.bool t))
     (first | (with_reducible exact y0) | (with_reducible exact y1) | (with_reducible exact y2) | (with_reducible exact y3) | (with_reducible exact y4))
     ((first
      | (go_at_call 137;(with_reducible refine (Co (!(s == t)) _ r6.drew h6 h6').mono ?_);rintro e u1 ⟨s8,A8,n8,c8,rfl,i8,d8⟩;have pa3:=pa2.drew.call d8;have pb3:=pb2.drew.call d8;have pq3:=pq2.drew.call d8;have pr3:=pr2.drew.call d8;have y1:=pa3.bools pb3;have r71:=r7.drew.call d8)
      | (go_at_call 137;(with_reducible refine (Co t _ r71 h7 h7').mono ?_);rintro e u2 ⟨s9,A9,n9,c9,rfl,i9,d9⟩;have pa4:=pa3.call d9;have pb4:=pb3.call d9;have pq4:=pq3.call d9;have pr4:=pr3.call d9;have y2:=pa4.bools pb4;have i8':=i8.call d9;have pa5:=pa4.far (g':=w.heap.size+1+1) (by omega) (.bool s8) (.slice A8 n8 c8);have pb5:=pb4.far (g':=w.heap.size+1+1) (by omega) (.bool s8) (.slice A8 n8 c8);have y3:=pa5.bools pb5;have y4:=(pa5.far (g':=w.heap.size+1+1+1) (by omega) (.bool s9) (.slice A9 n9 c9)).bools (pb5.far (g':=w.heap.size+1+1+1) (by omega) (.bool s9) (.slice A9 n9 c9));have pr5:=pr4.far (g':=w.heap.size+1+1) (by omega) (.bool s8) (.slice A8 n8 c8);obtain ⟨q0,q1,f0,f1,k0,k1⟩:=pq4.all (.bool s8) (.slice A8 n8 c8);obtain ⟨q0',q1',f0',f1',k0',k1'⟩:=pr5.all (.bool s9) (.slice A9 n9 c9))))
    have bZ:=AA (AA b2.drew d8) d9;have z1:=(i8'.stored pq4 (.bool s8) (.slice A8 n8 c8)).stored pr5 (.bool s9) (.slice A9 n9 c9);have z2:=(i9.stored pq4 (.bool s8) (.slice A8 n8 c8)).stored pr5 (.bool s9) (.slice A9 n9 c9);obtain ⟨v0,v1⟩:=((pq4.stored (s':=s8) (A':=A8) (n':=n8) (c':=c8)).far (g':=w.heap.size+1+1+1) (by omega) (.bool s9) (.slice A9 n9 c9)).cells1
    go_wp2
    refine bodyPost_ret (v := .tuple #[.agg #[.bool s8,.slice A8 n8 c8],.agg #[.bool s9,.slice A9 n9 c9],.int .i64 0]) (by simp[results,Tryz.results130,go_sem,k0',k1',v0,v1]) rfl ?_
    exact ⟨_,_,_,_,_,_,_,_,_,rfl,by rw[HQ.out];exact z1,by rw[if_neg HTY.out,HR.out];exact z2,by rw[if_neg HTY.out],AC (AC bZ (by omega) _ _) (by omega) _ _⟩
   ·have hst:s=t:=by by_cases e:s=t;exact e;exact absurd ⟨by omega,e⟩ hadj
    subst hst;have hgt:decide (0 < (n5:Int))=true:=by simp;omega
    have hgn:0 < n5:=by omega
    have hsf:(!(s == s))=false:=by simp
    rw[hsf] at HQ;clear hadj hsf;go_wp2_with fail
    have y0:=pa2.drew.bools pb2.drew
    go_region_held3 (fun w'=>w'.cell? ⟨w.heap.size,0,none⟩=some (.bool s)∧w'.cell? ⟨w.heap.size+1,0,none⟩=some (.bool s))
     (first | (with_reducible exact y0) | (with_reducible exact y1) | (with_reducible exact y2) | (with_reducible exact y3) | (with_reducible exact y4))
     ((first
      | (go_at_call 137;(with_reducible refine (Co false _ r6.drew h6 h6').mono ?_);rintro e u1 ⟨s8,A8,n8,c8,rfl,i8,d8⟩;have pa3:=pa2.drew.call d8;have pb3:=pb2.drew.call d8;have pq3:=pq2.drew.call d8;have pr3:=pr2.drew.call d8;have y1:=pa3.bools pb3;have r71:=r7.drew.call d8)
      | (go_at_call 137;(with_reducible refine (Co s _ r71 h7 h7').mono ?_);rintro e u2 ⟨s9,A9,n9,c9,rfl,i9,d9⟩;have pa4:=pa3.call d9;have pb4:=pb3.call d9;have pq4:=pq3.call d9;have pr4:=pr3.call d9;have y2:=pa4.bools pb4;have i8':=i8.call d9;have pa5:=pa4.far (g':=w.heap.size+1+1) (by omega) (.bool s8) (.slice A8 n8 c8);have pb5:=pb4.far (g':=w.heap.size+1+1) (by omega) (.bool s8) (.slice A8 n8 c8);have y3:=pa5.bools pb5;have y4:=(pa5.far (g':=w.heap.size+1+1+1) (by omega) (.bool s9) (.slice A9 n9 c9)).bools (pb5.far (g':=w.heap.size+1+1+1) (by omega) (.bool s9) (.slice A9 n9 c9));have pr5:=pr4.far (g':=w.heap.size+1+1) (by omega) (.bool s8) (.slice A8 n8 c8);obtain ⟨q0,q1,f0,f1,k0,k1⟩:=pq4.all (.bool s8) (.slice A8 n8 c8);obtain ⟨q0',q1',f0',f1',k0',k1'⟩:=pr5.all (.bool s9) (.slice A9 n9 c9))))
    have bZ:=AA (AA b2.drew d8) d9;have z1:=(i8'.stored pq4 (.bool s8) (.slice A8 n8 c8)).stored pr5 (.bool s9) (.slice A9 n9 c9);have z2:=(i9.stored pq4 (.bool s8) (.slice A8 n8 c8)).stored pr5 (.bool s9) (.slice A9 n9 c9);obtain ⟨v0,v1⟩:=((pq4.stored (s':=s8) (A':=A8) (n':=n8) (c':=c8)).far (g':=w.heap.size+1+1+1) (by omega) (.bool s9) (.slice A9 n9 c9)).cells1
    go_wp2
    refine bodyPost_ret (v := .tuple #[.agg #[.bool s8,.slice A8 n8 c8],.agg #[.bool s9,.slice A9 n9 c9],.int .i64 0]) (by simp[results,Tryz.results130,go_sem,k0',k1',v0,v1]) rfl ?_
    exact ⟨_,_,_,_,_,_,_,_,_,rfl,by rw[HQ.out];exact z1,by rw[if_neg HTY.out,HR.out];exact z2,by rw[if_neg HTY.out],AC (AC bZ (by omega) _ _) (by omega) _ _⟩
set_option maxRecDepth 100000 in
theorem Lf (a b:Nat)(w:World)(ha:a < 18446744073709551616)(hb:b < 18446744073709551616) :
  Calls Tryz.prog 195 #[.int .u64 a,.int .u64 b] w (VW w (.int .u64 (Nat.gcd a b:Nat))):=by
 obtain ⟨G,hG⟩ : ∃ G,Nat.gcd a b=G:=⟨_,rfl⟩;have HG:=Lib.hid hG;rw[hG];clear hG;go_enter Tryz.func195,Tryz.ntmps195
 go_wp2
 go_loopw [0,1] (fun x y wr => ∃ p q:Nat,x = .int .u64 p∧y = .int .u64 q∧p < 18446744073709551616∧q < 18446744073709551616∧Hid (Nat.gcd p q=G)∧Hid (∃ n,wr=w.drewN n)) (fun _ y _=>(intOf y).toNat)
 case atStart=>exact ⟨a,b,rfl,rfl,ha,hb,HG,⟨0,rfl⟩⟩
 case round =>
  obtain ⟨p,q,rfl,rfl,hp,hq,HP,HW⟩:=hrel;by_cases h0:q=0
  ·subst h0
   have HP':=HP.out;rw[Nat.gcd_zero_right] at HP';subst HP';go_wp2
   go_ret
   exact ⟨rfl,HW.out⟩
  ·have hb0:((q:Int) == 0)=false:=by simp;omega
   have hb1:((q:Int) != 0)=true:=by simp;omega
   have hq0:0 < q:=by omega
   have hlt:p % q < q:=Nat.mod_lt _ hq0;have HN:Hid (Nat.gcd q (p % q)=G):=by unfold Hid;rw[←HP.out,Nat.gcd_comm q,←Nat.gcd_rec,Nat.gcd_comm]
   obtain ⟨r,hr⟩ : ∃ r,p % q=r:=⟨_,rfl⟩;have e1:(p:Int).tmod (q:Int)=(r:Int):=by rw[←hr];exact (Int.ofNat_tmod p q).symm
   have e2:(p:Int) % (q:Int)=(r:Int):=by rw[←hr];exact (Int.natCast_emod p q).symm
   rw[hr] at HN hlt;clear hr h0;go_wp2
   go_quiet (fail)
   go_wp2
   go_roundw
   case rel=>exact ⟨q,r,rfl,rfl,by omega,by omega,HN,by obtain ⟨n,hn⟩:=HW.out;exact ⟨n+_,by rw[hn,World.drewN_drewN]⟩⟩
   case measure=>simp[intOf] <;> omega
set_option maxRecDepth 100000 in
theorem Ta {A:Option Addr}{n c B g i:Nat}{xs:List Nat}(w:World)(hc:w.cell? ⟨g,0,none⟩=some (.slice A n c))(hr:Rd .u32 w B A n xs)(hx:W32 xs)(hi:i≤4611686018427387904)(hn:n≤4611686018427387904) :
  Calls Tryz.prog 235 #[.int .i64 (i:Int),.pointer (some ⟨g,0,none⟩)] w (fun e w'=>e = .returned (.int .u64 (xs.getD i 0:Nat))∧w=w'):=by
 have HL:=Lib.hid hr.len;have hxl:=hx.getD i;clear hx;by_cases h0:i < n
 ·obtain ⟨b,off,rfl,hb,hcell⟩:=hr.at_ h0
  generalize xs.getD i 0=x at *;have i1:(0:Int)≤(i:Int):=by omega
  have i2:(i:Int) < (n:Int):=by omega
  go_enter Tryz.func235,Tryz.ntmps235
  go_wp2
  go_ret
  exact ⟨rfl,rfl⟩
 ·have hz:xs.getD i 0=0:=C5 xs i (by rw[HL.out];omega)
  rw[hz];clear hz hxl;go_enter Tryz.func235,Tryz.ntmps235
  go_wp2
  go_ret
  exact ⟨rfl,rfl⟩
theorem U0 {x1 x2 x3 s:Nat}(h1:x1 < 2 ^ (32 - s))(h2:x2 < 4294967296)(h3:x3 < 4294967296)(hs:s≤31) : ∃ ph lo:Nat,IntKind.u64.wrap (((x2+4294967296*x1:Nat):Int)*2 ^ s)=(ph:Int)∧(x3:Int) / 2 ^ (32 - s)=(lo:Int)∧bits .or .u64 (ph:Int) (lo:Int)=(((x1*4294967296+x2)*2 ^ s+x3 / 2 ^ (32 - s):Nat):Int)∧ph < 18446744073709551616∧lo < 4294967296:=by
 have hp:2 ^ (32 - s)*2 ^ s=4294967296:=by rw[←Nat.pow_add,show 32 - s+s=32 by omega]
 have hpos:0 < 2 ^ s:=Nat.two_pow_pos s;have hpos':0 < 2 ^ (32 - s):=Nat.two_pow_pos _;have hlo:x3 / 2 ^ (32 - s) < 2 ^ s:=by rw[Nat.div_lt_iff_lt_mul hpos',Nat.mul_comm,hp];exact h3
 have hhi:(x2+4294967296*x1)*2 ^ s+2 ^ s≤4294967296*4294967296:=by
  have e1:(x1+1)*2 ^ s≤2 ^ (32 - s)*2 ^ s:=Nat.mul_le_mul_right _ h1;rw[hp] at e1;have e2:(x2+4294967296*x1+1)*2 ^ s≤4294967296*(x1+1)*2 ^ s:=Nat.mul_le_mul_right _ (by omega)
  rw[Nat.mul_assoc] at e2;rw[Nat.succ_mul] at e2;omega
 have hs2:2 ^ s≤4294967296:=Nat.pow_le_pow_right (n:=2) (by omega) (show s≤32 by omega)
 have e0 : ∀ h:Nat,((h*2 ^ s:Nat):Int)=(h:Int)*2 ^ s:=fun h=>by simp
 have e:=e0 (x2+4294967296*x1);have hj:=nat_join s ((x2+4294967296*x1)*2 ^ s) (x3 / 2 ^ (32 - s)) (Nat.mul_mod_left _ _) hlo;refine ⟨(x2+4294967296*x1)*2 ^ s,x3 / 2 ^ (32 - s),?_,by simp,?_,by omega,by omega⟩
 ·rw[←e,IntKind.wrap_u64];omega
 ·rw[u64_or_nat _ _ (by omega) (by omega),hj]
  rw[show x1*4294967296+x2=x2+4294967296*x1 by omega]
set_option maxRecDepth 100000 in
theorem LL {A:Option Addr}{n c N s:Nat}{xs:List Nat}(w:World)(hr:Rd .u32 w w.heap.size A n xs)(hx:W32 xs)(hN:3≤N)(hnN:n≤N)(hNl:N≤549755813888)(hs:s≤31)(htop:xs.getD (N - 1) 0 < 2 ^ (32 - s)) :
  Calls Tryz.prog 219 #[.slice A n c,.int .i64 (N:Int),.int .u64 (s:Int)] w (Gk w (.int .u64 (val xs / 2 ^ (32*(N - 2) - s):Nat))):=by
 have HV:=Lib.hid (RH xs N s hN (by rw[hr.len];exact hnN) hx hs)
 obtain ⟨W,hW⟩ : ∃ W,W=w.alloc (.cells #[.slice A n c] 22):=⟨_,rfl⟩;have bW:Below w.heap.size w W:=by rw[hW];exact Ek _ _
 have hc:W.cell? ⟨w.heap.size,0,none⟩=some (.slice A n c):=by rw[hW];simp
 have hr1:=hr.call bW;have H1:=Lib.hid (Ta (i:=N - 1) W hc hr1 hx (by omega) (by omega))
 have H2:=Lib.hid (Ta (i:=N - 2) W hc hr1 hx (by omega) (by omega))
 have H3:=Lib.hid (Ta (i:=N - 3) W hc hr1 hx (by omega) (by omega))
 have k1:(N:Int) - 1=((N - 1:Nat):Int):=by omega
 have k2:(N:Int) - 2=((N - 2:Nat):Int):=by omega
 have k3:(N:Int) - 3=((N - 3:Nat):Int):=by omega
 rw[←k1] at H1;rw[←k2] at H2;rw[←k3] at H3;have l1:=hx.getD (N - 1);have l2:=hx.getD (N - 2);have l3:=hx.getD (N - 3);rw[←HV.out];clear HV hc hr hr1 hx k1 k2 k3;generalize xs.getD (N - 1) 0=x1 at *;generalize xs.getD (N - 2) 0=x2 at *;generalize xs.getD (N - 3) 0=x3 at *;obtain ⟨ph,lo,f1,f2,f3,f4,f5⟩:=U0 htop l2 l3 hs;have e1:=Fq x2 x1 l2 l1;have hhi:x2+4294967296*x1 < 18446744073709551616:=by omega
 generalize x2+4294967296*x1=hi at *;generalize (x1*4294967296+x2)*2 ^ s+x3 / 2 ^ (32 - s)=res at *;go_enter Tryz.func219,Tryz.ntmps219
 go_wp2_with fail
 rw[←hW];clear hW;refine H1.out.mono ?_;rintro e w1 ⟨rfl,rfl⟩;go_wp2_with fail
 refine H2.out.mono ?_;rintro e w1 ⟨rfl,rfl⟩;go_wp2_with fail
 refine H3.out.mono ?_;rintro e w1 ⟨rfl,rfl⟩;go_wp2
 go_ret
 exact ⟨rfl,bW⟩
def Cq (w:World)(g u0 u1 v0 v1:Nat)(even:Bool):Prop:=w.heap[g]? = some (.cells #[.int .u64 u0,.int .u64 u1,.int .u64 v0,.int .u64 v1,.bool even] 203 (0,0))
section
variable {w w':World}{g u0 u1 v0 v1:Nat}{even:Bool}
theorem Cq.lt (h:Cq w g u0 u1 v0 v1 even):g < w.heap.size:=(Array.getElem?_eq_some_iff.1 h).1
theorem Cq.call (h:Cq w g u0 u1 v0 v1 even)(hb:Below w.heap.size w w'):Cq w' g u0 u1 v0 v1 even:=(hb.block g h.lt).trans h
theorem Cq.c0 (h:Cq w g u0 u1 v0 v1 even):w.cell? ⟨g,0,none⟩=some (.int .u64 u0):=by rw[cell_of_row w g 0 _ _ (0,0) h];rfl
theorem Cq.c1 (h:Cq w g u0 u1 v0 v1 even):w.cell? ⟨g,1,none⟩=some (.int .u64 u1):=by rw[cell_of_row w g 1 _ _ (0,0) h];rfl
theorem Cq.c2 (h:Cq w g u0 u1 v0 v1 even):w.cell? ⟨g,2,none⟩=some (.int .u64 v0):=by rw[cell_of_row w g 2 _ _ (0,0) h];rfl
theorem Cq.c3 (h:Cq w g u0 u1 v0 v1 even):w.cell? ⟨g,3,none⟩=some (.int .u64 v1):=by rw[cell_of_row w g 3 _ _ (0,0) h];rfl
theorem Cq.c4 (h:Cq w g u0 u1 v0 v1 even):w.cell? ⟨g,4,none⟩=some (.bool even):=by rw[cell_of_row w g 4 _ _ (0,0) h];rfl
theorem Cq.frozen (h:Cq w g u0 u1 v0 v1 even)(i:Nat):w.frozen? ⟨g,i,none⟩=false:=by
 unfold Cq at h;simp[World.frozen?,h]
theorem Cq.all (h:Cq w g u0 u1 v0 v1 even):w.cell? ⟨g,0,none⟩=some (.int .u64 u0)∧w.cell? ⟨g,1,none⟩=some (.int .u64 u1)∧w.cell? ⟨g,2,none⟩=some (.int .u64 v0)∧w.cell? ⟨g,3,none⟩=some (.int .u64 v1)∧w.cell? ⟨g,4,none⟩=some (.bool even) ∧
  w.frozen? ⟨g,0,none⟩=false∧w.frozen? ⟨g,1,none⟩=false∧w.frozen? ⟨g,2,none⟩=false∧w.frozen? ⟨g,3,none⟩=false∧w.frozen? ⟨g,4,none⟩=false:=⟨h.c0,h.c1,h.c2,h.c3,h.c4,h.frozen 0,h.frozen 1,h.frozen 2,h.frozen 3,h.frozen 4⟩
theorem Cq.far (h:Cq w g u0 u1 v0 v1 even){p:Addr}(hp:g≠p.block)(u:Value):Cq (w.setCell p u) g u0 u1 v0 v1 even:=(Below.heap_setCell w p u g hp).trans h
theorem Cq.s0 (h:Cq w g u0 u1 v0 v1 even)(x:Nat):Cq (w.setCell ⟨g,0,none⟩ (.int .u64 x)) g x u1 v0 v1 even:=by
 unfold Cq at h ⊢;simp only[World.setCell,Array.getElem?_modify,h,if_true,Option.map_some];rfl
theorem Cq.s1 (h:Cq w g u0 u1 v0 v1 even)(x:Nat):Cq (w.setCell ⟨g,1,none⟩ (.int .u64 x)) g u0 x v0 v1 even:=by
 unfold Cq at h ⊢;simp only[World.setCell,Array.getElem?_modify,h,if_true,Option.map_some];rfl
theorem Cq.s2 (h:Cq w g u0 u1 v0 v1 even)(x:Nat):Cq (w.setCell ⟨g,2,none⟩ (.int .u64 x)) g u0 u1 x v1 even:=by
 unfold Cq at h ⊢;simp only[World.setCell,Array.getElem?_modify,h,if_true,Option.map_some];rfl
theorem Cq.s3 (h:Cq w g u0 u1 v0 v1 even)(x:Nat):Cq (w.setCell ⟨g,3,none⟩ (.int .u64 x)) g u0 u1 v0 x even:=by
 unfold Cq at h ⊢;simp only[World.setCell,Array.getElem?_modify,h,if_true,Option.map_some];rfl
theorem Cq.s4 (h:Cq w g u0 u1 v0 v1 even)(x:Bool):Cq (w.setCell ⟨g,4,none⟩ (.bool x)) g u0 u1 v0 v1 x:=by
 unfold Cq at h ⊢;simp only[World.setCell,Array.getElem?_modify,h,if_true,Option.map_some];rfl
theorem Cq.new (w:World)(u0 u1 v0 v1:Nat)(even:Bool):Cq (w.alloc (.cells #[.int .u64 u0,.int .u64 u1,.int .u64 v0,.int .u64 v1,.bool even] 203)) w.heap.size u0 u1 v0 v1 even:=by
 unfold Cq;simp only[World.alloc,Array.getElem?_push_size]
end
def Adj (w:World)(A1 A2:Nat)(e:Ending)(w':World):Prop :=
 ∃ u0 u1 v0 v1 even,e = .returned (.agg #[.int .u64 (u0:Nat),.int .u64 (u1:Nat),.int .u64 (v0:Nat),.int .u64 (v1:Nat),.bool even])∧(v0=0 ∨ ∃ p a,Cot A1 A2 p a u0 u1 v0 v1 even)∧Below w.heap.size w w'
def CoS (w wr:World)(g9 A1 A2 a1 a2 u0 u1 u2 v0 v1 v2:Nat)(even:Bool):Prop :=
 Cos A1 A2 a1 a2 u1 u2 v1 v2 even∧(v0=0 ∨ ∃ p a,Cot A1 A2 p a u0 u1 v0 v1 even)∧Cq wr w.heap.size 0 0 0 0 false∧Cq wr g9 u0 u1 v0 v1 even∧Below w.heap.size w wr
theorem Ra (xs:List Nat)(j:Nat)(h:W32 xs)(hl:xs.length≤j+1):xs.getD j 0=val xs / 4294967296 ^ j:=by
 rw[←PN xs j h];have:(xs.drop j).length≤1:=by rw[List.length_drop];omega
 have e:xs.getD j 0=(xs.drop j).getD 0 0:=by simp[List.getD_eq_getElem?_getD,List.getElem?_drop]
 rw[e]
 match xs.drop j,this with
 | [],_=>rfl
 | [a],_=>simp[val]
 | _::_::_,h=>simp at h
theorem Sz {X Y n s:Nat}(hl:(Ae X).length=n)(hn:3≤n)(hle:Y≤X)(hs:s=32 - Bl ((Ae X).getD (n - 1) 0)) :
  s≤31∧(Ae X).getD (n - 1) 0 < 2 ^ (32 - s)∧(Ae Y).getD (n - 1) 0 < 2 ^ (32 - s)∧(Ae Y).length≤n∧X / 2 ^ (32*(n - 2) - s) < 18446744073709551616∧Y / 2 ^ (32*(n - 2) - s)≤X / 2 ^ (32*(n - 2) - s):=by
 obtain ⟨h0,hlt,_⟩:=Mx hl (by omega)
 have hly:=AW hle;rw[hl] at hly;have tx:=Ra (Ae X) (n - 1) (Ai _) (by omega)
 have ty:=Ra (Ae Y) (n - 1) (Ai _) (by omega)
 rw[An] at tx ty;have hb1:=Gj ((Ae X).getD (n - 1) 0);have hb2:Bl ((Ae X).getD (n - 1) 0)≤32:=DM hlt;have hb3:1≤Bl ((Ae X).getD (n - 1) 0):=by
  rcases Nat.eq_zero_or_pos (Bl ((Ae X).getD (n - 1) 0)) with h | h
  ·rw[h] at hb1;omega
  ·exact h
 have hs1:s≤31:=by omega
 have hs2:32 - s=Bl ((Ae X).getD (n - 1) 0):=by omega
 have hxy:(Ae Y).getD (n - 1) 0≤(Ae X).getD (n - 1) 0:=by rw[tx,ty];exact Nat.div_le_div_right hle
 rw[←hs2] at hb1;refine ⟨hs1,hb1,Nat.lt_of_le_of_lt hxy hb1,hly,?_,Nat.div_le_div_right hle⟩;rw[Nat.div_lt_iff_lt_mul (Nat.two_pow_pos _)];rw[tx,Nat.div_lt_iff_lt_mul (Nat.pow_pos (by omega))] at hb1
 refine Nat.lt_of_lt_of_le hb1 (Nat.le_of_eq ?_);rw[show (18446744073709551616:Nat)=2 ^ 64 by rfl,show (4294967296:Nat)=2 ^ 32 by rfl,←Nat.pow_mul,←Nat.pow_add,←Nat.pow_add]
 congr 1;omega
set_option maxHeartbeats 2000000 in
set_option maxRecDepth 100000 in
theorem Ns {A A' : Option Addr} {n n' c c' X Y : Nat} (w : World) (hr : Rd .u32 w w.heap.size A n (Ae X)) (hr' : Rd .u32 w w.heap.size A' n' (Ae Y)) (hle : Y ≤ X) (hn : 3 ≤ n) (hnl : n ≤ 549755813888) (hnc : n ≤ c) (hc : c ≤ 9223372036854775807) :
  ∃ D,0 < D∧X / D < 18446744073709551616∧Calls Tryz.prog 193 #[.slice A n c,.slice A' n' c'] w (Adj w (X / D) (Y / D)):=by
 obtain ⟨s,hs⟩ : ∃ s,s=32 - Bl ((Ae X).getD (n - 1) 0):=⟨_,rfl⟩;obtain ⟨hs1,htx,hty,hly,hA1,hA2⟩:=Sz hr.len hn hle hs;refine ⟨2 ^ (32*(n - 2) - s),Nat.two_pow_pos _,hA1,?_⟩;have hly':n'≤n:=by rw[←hr'.len];exact hly
 have H1:=Lib.hid (fun (W:World) (h:Rd .u32 W W.heap.size A n (Ae X))=>LL (c:=c) W h (Ai X) hn (Nat.le_refl _) hnl hs1 htx)
 have H2:=Lib.hid (fun (W:World) (h:Rd .u32 W W.heap.size A' n' (Ae Y))=>LL (c:=c') W h (Ai Y) hn hly' hnl hs1 hty)
 rw[An] at H1 H2;have HC0:=Lib.hid (Cos.start hA2);have hA2':Y / 2 ^ (32*(n - 2) - s) < 18446744073709551616:=Nat.lt_of_le_of_lt hA2 hA1;generalize X / 2 ^ (32*(n - 2) - s)=A1 at *;generalize Y / 2 ^ (32*(n - 2) - s)=A2 at *;have hxl:=(Ai X).getD (n - 1);have H3:=Lib.hid (fun W=>EE ((Ae X).getD (n - 1) 0) W hxl)
 rw[←hs] at H3;clear hs htx hty hly;obtain ⟨W,hW⟩ : ∃ W,W=w.alloc (.cells #[.int .u64 0,.int .u64 0,.int .u64 0,.int .u64 0,.bool false] 203):=⟨_,rfl⟩;have bW:Below w.heap.size w W:=by rw[hW];exact Ek _ _
 have p4:Cq W w.heap.size 0 0 0 0 false:=by rw[hW];exact Cq.new w 0 0 0 0 false
 replace hr:=hr.call bW
 replace hr':=hr'.call bW
 have hr0:=hr;obtain ⟨bx,ox,rfl,hbx,hcx⟩:=hr.at_ (j:=n - 1) (by omega)
 generalize (Ae X).getD (n - 1) 0=top at *;have k1:(0:Int)≤(n:Int) - 1:=by omega
 have k2:(n:Int) - 1 < (n:Int):=by omega
 have k3:((n:Int) - 1).toNat=n - 1:=by omega
 go_enter Tryz.func193,Tryz.ntmps193
 go_upto_region 1 with (fail)
 rw[←hW];clear hW;go_wp2_with fail
 refine (H3.out _).mono ?_;rintro e W1 ⟨rfl,rfl⟩;clear H3 hcx k1 k2 k3;go_wp2_with fail
 refine (H1.out _ hr).mono ?_;rintro e W2 ⟨rfl,d2⟩;replace hr':=hr'.call d2
 replace p4:=p4.call d2
 replace bW:=AA bW d2
 clear H1 hr hr0 d2;go_wp2_with fail
 refine (H2.out _ hr').mono ?_;rintro e W3 ⟨rfl,d3⟩;replace p4:=p4.call d3
 replace bW:=AA bW d3
 clear H2 hr' d3;obtain ⟨W4,hW4⟩ : ∃ W4,W4=W3.alloc (.cells #[.int .u64 0,.int .u64 0,.int .u64 0,.int .u64 0,.bool false] 203):=⟨_,rfl⟩;have b4:Below W3.heap.size W3 W4:=by rw[hW4];exact Ek _ _
 have p9:Cq W4 W3.heap.size 0 0 0 0 false:=by rw[hW4];exact Cq.new W3 0 0 0 0 false
 have hlt:=p4.lt;replace p4:=p4.call b4
 replace bW:=AA bW b4
 clear b4
 go_upto_region 5 with (fail)
 rw[←hW4];clear hW4;generalize W3.heap.size=g9 at *;have q1:=p9.s1 1;have q3:=q1.s3 0;have p4':=(p4.far (p:=⟨g9,1,none⟩) (by simp;omega) (.int .u64 (1:Nat))).far (p:=⟨g9,3,none⟩) (by simp;omega) (.int .u64 (0:Nat))
 have bW':=(bW.setCell (p:=⟨g9,1,none⟩) (by simp;omega) (.int .u64 (1:Nat))).setCell (p:=⟨g9,3,none⟩) (by simp;omega) (.int .u64 (0:Nat))
 have HE:Hid (CoS w ((W4.setCell ⟨g9,1,none⟩ (.int .u64 1)).setCell ⟨g9,3,none⟩ (.int .u64 0)) g9 A1 A2 A1 A2 0 1 0 0 0 1 false):=⟨HC0.out,.inl rfl,p4',q3,bW'⟩;obtain ⟨c0,c1,c2,c3,c4,f0,f1,f2,f3,f4⟩:=p9.all;clear q1 q3 p4' bW' p4 bW p9;go_wp2_with fail
 clear c0 c1 c2 c3 c4 f0 f1 f2 f3 f4
 go_loopw [7,8,10,11,12] (fun x y uu vv _ wr => ∃ a1 a2 u0 u1 u2 v0 v1 v2:Nat,∃ even:Bool,x = .int .u64 a1∧y = .int .u64 a2∧uu = .int .u64 u2∧vv = .int .u64 v2∧Hid (CoS w wr g9 A1 A2 a1 a2 u0 u1 u2 v0 v1 v2 even)) (fun _ y _ _ _ _=>(intOf y).toNat)
 case atStart=>exact ⟨A1,A2,0,1,0,0,0,1,false,rfl,rfl,rfl,rfl,HE⟩
 case round =>
  clear HE;obtain ⟨a1,a2,u0,u1,u2,v0,v1,v2,even,rfl,rfl,rfl,rfl,HS⟩:=hrel;obtain ⟨hcos,hcot,p4,p9,bR⟩:=HS.out;have HCO:=Lib.hid hcos;have HCT:=Lib.hid hcot;have le21:=hcos.le;have v2p:=hcos.v2pos;have vmo:=hcos.vmono;have ha1:a1≤A1:=by
   have e:=hcos.e1;have:1*a1≤v2*a1:=Nat.mul_le_mul_right _ v2p;omega
  clear HS hcos hcot;obtain ⟨c0,c1,c2,c3,c4,f0,f1,f2,f3,f4⟩:=p9.all;by_cases h1:v2≤a2
  ·have hd1:decide (v2≤a2)=true:=by simpa using h1
   have hd1':decide ((v2:Int)≤(a2:Int))=true:=by simp;omega
   have hfit:=HCO.out.fits h1;have hv32:v2 < 4294967296:=AaN (by omega)
   by_cases h2:v1+v2≤a1 - a2
   ·have hd2:decide ((v1:Int)+(v2:Int)≤(a1:Int) - (a2:Int))=true:=by simp;omega
    obtain ⟨q,hq⟩ : ∃ q,a1 / a2=q:=⟨_,rfl⟩;obtain ⟨r,hr⟩ : ∃ r,a1 % a2=r:=⟨_,rfl⟩;have hrlt:r < a2:=by rw[←hr];exact Nat.mod_lt _ (by omega)
    have e1:(a1:Int) / (a2:Int)=(q:Int):=by rw[←hq];exact (Int.natCast_ediv a1 a2).symm
    have e2:(a1:Int) % (a2:Int)=(r:Int):=by rw[←hr];exact (Int.natCast_emod a1 a2).symm
    have e2':(a1:Int).tmod (a2:Int)=(r:Int):=by rw[Int.tmod_eq_emod_of_nonneg (by omega)];exact e2
    have hqb:q≤a1:=by rw[←hq];exact Nat.div_le_self _ _
    have e3:IntKind.u64.wrap (q:Int)=(q:Int):=IntWalk.u64_in _ ⟨Int.natCast_nonneg _,by omega⟩
    have HST:=Lib.hid (HCO.out.step h1);have HCT2:=Lib.hid (HCO.out.cot h1 h2);rw[hq] at hfit;rw[hq,hr] at HST;obtain ⟨qu,hqu⟩ : ∃ x,q*u2=x:=⟨_,rfl⟩;obtain ⟨qv,hqv⟩ : ∃ x,q*v2=x:=⟨_,rfl⟩;rw[hqu,hqv] at hfit;rw[hqu,hqv] at HST;have e4:IntKind.u64.wrap ((q:Int)*(u2:Int))=(qu:Int):=by
     rw[show ((q:Int)*(u2:Int))=(qu:Int) by rw[←hqu];push_cast;rfl];exact IntWalk.u64_in _ ⟨Int.natCast_nonneg _,by omega⟩
    have e5:IntKind.u64.wrap ((q:Int)*(v2:Int))=(qv:Int):=by
     rw[show ((q:Int)*(v2:Int))=(qv:Int) by rw[←hqv];push_cast;rfl];exact IntWalk.u64_in _ ⟨Int.natCast_nonneg _,by omega⟩
    have e6:IntKind.u64.wrap ((u1:Int)+(qu:Int))=((u1+qu:Nat):Int):=by rw[IntWalk.u64_in _ ⟨by omega,by omega⟩];omega
    have e7:IntKind.u64.wrap ((v1:Int)+(qv:Int))=((v1+qv:Nat):Int):=by rw[IntWalk.u64_in _ ⟨by omega,by omega⟩];omega
    have hb0:((a2:Int) == 0)=false:=by simp;omega
    generalize u1+qu=nu at *;generalize v1+qv=nv at *;clear hq hr hqu hqv HCO HCT
    go_upto_region 9 with (fail)
    go_quiet (fail)
    go_wp2
    go_roundw
    case rel =>
     refine ⟨a2,r,u1,u2,nu,v1,v2,nv,!even,rfl,rfl,rfl,rfl,HST.out,.inr ⟨_,_,HCT2.out⟩,?_,?_,?_⟩
     ·exact ((((p4.far (p:=⟨g9,0,none⟩) (by simp;omega) (.int .u64 u1)).far (p:=⟨g9,1,none⟩) (by simp;omega) (.int .u64 u2)).far (p:=⟨g9,2,none⟩) (by simp;omega) (.int .u64 v1)).far (p:=⟨g9,3,none⟩) (by simp;omega) (.int .u64 v2)).far (p:=⟨g9,4,none⟩) (by simp;omega) (.bool (!even))
     ·exact ((((p9.s0 u1).s1 u2).s2 v1).s3 v2).s4 (!even)
     ·first | exact (((((AA bR (CM wr _)).setCell (p:=⟨g9,0,none⟩) (by simp;omega) _).setCell (p:=⟨g9,1,none⟩) (by simp;omega) _).setCell (p:=⟨g9,2,none⟩) (by simp;omega) _).setCell (p:=⟨g9,3,none⟩) (by simp;omega) _).setCell (p:=⟨g9,4,none⟩) (by simp;omega) _ | exact AA ((((((bR).setCell (p:=⟨g9,0,none⟩) (by simp;omega) _).setCell (p:=⟨g9,1,none⟩) (by simp;omega) _).setCell (p:=⟨g9,2,none⟩) (by simp;omega) _).setCell (p:=⟨g9,3,none⟩) (by simp;omega) _).setCell (p:=⟨g9,4,none⟩) (by simp;omega) _) (CM _ _)
    case measure=>simp[intOf] <;> omega
   ·have hd2:decide ((v1:Int)+(v2:Int)≤(a1:Int) - (a2:Int))=false:=by simp;omega
    have HP:=Lib.hid (((((p4.s0 u0).s1 u1).s2 v0).s3 v1).s4 even);obtain ⟨k0,k1,k2,k3,k4,l0,l1,l2,l3,l4⟩:=p4.all;go_wp2
    obtain ⟨m0,m1,m2,m3,m4,_⟩:=HP.out.all;refine bodyPost_ret (v := .agg #[.int .u64 u0,.int .u64 u1,.int .u64 v0,.int .u64 v1,.bool even]) (by simp[results,Tryz.results193,go_sem,m0,m1,m2,m3,m4]) rfl ?_
    exact ⟨u0,u1,v0,v1,even,rfl,HCT.out,((((bR.setCell (Nat.le_refl _) _).setCell (Nat.le_refl _) _).setCell (Nat.le_refl _) _).setCell (Nat.le_refl _) _).setCell (Nat.le_refl _) _⟩
  ·have hd1:decide (v2≤a2)=false:=by simpa using h1
   have hd1':decide ((v2:Int)≤(a2:Int))=false:=by simp;omega
   have HP:=Lib.hid (((((p4.s0 u0).s1 u1).s2 v0).s3 v1).s4 even);obtain ⟨k0,k1,k2,k3,k4,l0,l1,l2,l3,l4⟩:=p4.all;go_wp2
   obtain ⟨m0,m1,m2,m3,m4,_⟩:=HP.out.all;refine bodyPost_ret (v := .agg #[.int .u64 u0,.int .u64 u1,.int .u64 v0,.int .u64 v1,.bool even]) (by simp[results,Tryz.results193,go_sem,m0,m1,m2,m3,m4]) rfl ?_
   exact ⟨u0,u1,v0,v1,even,rfl,HCT.out,((((bR.setCell (Nat.le_refl _) _).setCell (Nat.le_refl _) _).setCell (Nat.le_refl _) _).setCell (Nat.le_refl _) _).setCell (Nat.le_refl _) _⟩
theorem Uq (c:Nat)(h:c < 18446744073709551616):bits .and .u64 (c:Int) 4294967295=((c % 4294967296:Nat):Int):=by
 have:=u64_and_nat c 4294967295 h (by omega)
 have e2:c &&& 4294967295=c % 4294967296:=Nat.and_two_pow_sub_one_eq_mod _ 32;rw[e2] at this;exact this
theorem KL (l m br:Nat)(hl:l < 4294967296)(hm:m < 4294967296)(hbr:br≤1):((l:Int) - (m:Int) - (br:Int)) % 4294967296=(((l+4294967296+4294967296 - m - br) % 4294967296:Nat):Int):=by omega
theorem KM {P uX vY d q br p ux vy p1 q1:Nat}(h:uX+P*q+P*br=d+vY+P*p)(hbr:br≤1)(hp:p1=p+ux)(hq:q1=q+vy) :
  (uX+P*ux)+P*4294967296*(q1 / 4294967296)+P*4294967296*(if p1 % 4294967296 < q1 % 4294967296+br then 1 else 0) =
   (d+P*((p1 % 4294967296+4294967296+4294967296 - q1 % 4294967296 - br) % 4294967296))+(vY+P*vy)+P*4294967296*(p1 / 4294967296):=by
 subst hp hq;exact VJ h hbr
theorem QF (u:Nat)(xs:List Nat)(k:Nat):u*val (xs.take (k+1))=u*val (xs.take k)+4294967296 ^ k*(u*xs.getD k 0):=by
 rw[Av,Nat.mul_add];congr 1;rw[←Nat.mul_assoc,Nat.mul_comm u,Nat.mul_assoc]
set_option maxHeartbeats 4000000 in
set_option maxRecDepth 100000 in
theorem Fc {A A' : Option Addr} {n n' c c' u v R : Nat} {xs ys : List Nat} (w : World) (hr : Rd .u32 w w.heap.size A n xs) (hr' : Rd .u32 w w.heap.size A' n' ys) (hx : W32 xs) (hy : W32 ys) (hn : n ≤ 549755813888) (hn' : n' ≤ 549755813888)
  (hu:u < 4294967296) (hv:v < 4294967296) (hR:u*val xs=R+v*val ys) (hRn:R < 4294967296 ^ (max n n')) :
  Calls Tryz.prog 194 #[.slice A n c,.int .u64 u,.slice A' n' c',.int .u64 v] w (RetMag w R):=by
 have HL:=Lib.hid hr.len;have HL':=Lib.hid hr'.len;have HX:=Lib.hid hx;have HY:=Lib.hid hy;have HR:=Lib.hid hR;obtain ⟨N,hN,hN0,hN1,hN2,hN3⟩ : ∃ N:Nat,max n n'=N∧max (n:Int) (n':Int)=(N:Int)∧n≤N∧n'≤N∧N≤549755813888:=⟨max n n',rfl,by omega,by omega,by omega,by omega⟩
 rw[hN] at hRn;have HRN:=Lib.hid hRn;have HNE:=Lib.hid hN;clear hx hy hR hRn hN;go_enter Tryz.func194,Tryz.ntmps194
 go_wp2_with (at_make;refine AV (kx := .i64) (ky := .i64) (n:=N) (c:=N) Tryz.elemU32 Tryz.underlying22 rfl rfl (congrArg (Value.int .i64) (by first | rfl | omega)) (congrArg (Value.int .i64) (by first | rfl | omega)) (Nat.le_refl _) (by omega) (by omega) ?_)
 all_goals
  intro w1 B1 b1 l1;rw[←D1] at B1;generalize hg:w.heap.size=g at *;have HG:=Lib.hid hg;clear hg;have r1:=hr.below b1;have r1':=hr'.below b1;clear hr hr' l1;first | rw[show (n':Int)=(N:Int) by omega] | rw[show (n:Int)=(N:Int) by omega] | skip
  clear hN0
  (try clear h)
  go_wp2_with fail
  go_loopw [11,12,13,14,15,24] (fun pv qv bv _ _ i wr => ∃ (k p q br:Nat) (ds:List Nat),k≤N∧i = .int .i64 k∧pv = .int .u64 p∧qv = .int .u64 q∧bv = .int .i64 br∧p < 4294967296∧q < 4294967296∧br≤1∧Hid (ds.length=k)∧Hid (W32 ds)∧Hid (u*val (xs.take k)+4294967296 ^ k*q+4294967296 ^ k*br=val ds+v*val (ys.take k)+4294967296 ^ k*p)∧Buf .u32 97 wr g (fill ds N)∧Rd .u32 wr g A n xs∧Rd .u32 wr g A' n' ys∧Below g w wr) (fun _ _ _ _ _ i _=>N - (intOf i).toNat)
  case atStart=>exact ⟨0,0,0,0,[],by omega,rfl,rfl,rfl,rfl,by omega,by omega,by omega,rfl,W32.nil,by simp[Hid,val],B1,r1,r1',b1⟩
  case round =>
   obtain ⟨k,p,q,br,ds,hk,rfl,rfl,rfl,rfl,hp,hq,hbr,hdl,hdw,HV,hB,qx,qy,hb⟩:=hrel;clear B1 r1 r1' b1;by_cases hlt:k < N
   ·have hxl := HX.out.getD k
    have hyl:=HY.out.getD k;have hc:wr.cell? ⟨g,k,none⟩=some (.int .u32 (((fill ds N).getD k 0:Nat):Int)):=hB.cell (by rw[CB (by rw[hdl.out];omega)];omega)
    have hf:=hB.frozen k;have HMX:=Lib.hid (QF u xs k);have HMY:=Lib.hid (QF v ys k);have HSET:=Lib.hid (fun d=>CA d hlt hdl.out)
    have HLEN:Hid (∀ d,(ds++[d]).length=k+1):=fun d=>by rw[List.length_append,hdl.out];rfl
    have HVAL:Hid (∀ d,val (ds++[d])=val ds+4294967296 ^ k*d):=fun d=>by rw[BO,hdl.out]
    have i1:(0:Int)≤(k:Int):=by omega
    have i2:(k:Int) < (N:Int):=by omega
    by_cases hx1:k < n
    ·by_cases hy1:k < n'
     ·obtain ⟨bx,ox,rfl,hbx,hcx⟩:=qx.at_ hx1
      obtain ⟨px,p1,lo,e1,e2,e3,hp1,hlo,hpd⟩:=ED hu hxl hp;obtain ⟨by1,oy,rfl,hby,hcy⟩:=qy.at_ hy1;obtain ⟨py,q1,mo,f1,f2,f3,hq1,hmo,hqd⟩:=ED hv hyl hq;have HVS:=Lib.hid (KM HV.out hbr hp1 hq1);rw[←HMX.out,←HMY.out,←Nat.pow_succ,←hlo,←hmo] at HVS;have hlol:lo < 4294967296:=by omega
      have hmol:mo < 4294967296:=by omega
      have HW:=Lib.hid (KL lo mo br hlol hmol hbr);have HPD:=Lib.hid hpd;have HQD:=Lib.hid hqd;have hp64:p1 < 18446744073709551616:=by omega
      have hq64:q1 < 18446744073709551616:=by omega
      generalize xs.getD k 0=x at *;generalize ys.getD k 0=y at *;generalize (fill ds N).getD k 0=old at *;clear hlo hmo hp1 hq1 HMX HMY hpd hqd;by_cases hbt:lo < mo+br
      ·rw[if_pos hbt] at HVS
       have hd:decide ((lo:Int) - (mo:Int) - (br:Int) < 0)=true:=by simp;omega
       clear hp64 hq64;go_wp2
       go_roundw
       case rel =>
        refine ⟨k+1,p1 / 4294967296,q1 / 4294967296,1,ds++[(lo+4294967296+4294967296 - mo - br) % 4294967296],by omega,by go_num,by go_num,by go_num,rfl,HPD.out,HQD.out,by omega,HLEN.out _,hdw.out.append (W32.mk (by omega) W32.nil),?_,?_,qx.setCell (Nat.le_refl _) _,qy.setCell (Nat.le_refl _) _,hb.setCell (Nat.le_refl _) _⟩
        ·unfold Hid;rw[HVAL.out];exact HVS.out
        ·rw[←HSET.out];exact hB.setZ k (by first | exact HW.out | omega)
       case measure=>simp[intOf] <;> omega
      ·rw[if_neg hbt] at HVS
       have hd:decide ((lo:Int) - (mo:Int) - (br:Int) < 0)=false:=by simp;omega
       clear hp64 hq64;go_wp2
       go_roundw
       case rel =>
        refine ⟨k+1,p1 / 4294967296,q1 / 4294967296,0,ds++[(lo+4294967296+4294967296 - mo - br) % 4294967296],by omega,by go_num,by go_num,by go_num,rfl,HPD.out,HQD.out,by omega,HLEN.out _,hdw.out.append (W32.mk (by omega) W32.nil),?_,?_,qx.setCell (Nat.le_refl _) _,qy.setCell (Nat.le_refl _) _,hb.setCell (Nat.le_refl _) _⟩
        ·unfold Hid;rw[HVAL.out];exact HVS.out
        ·rw[←HSET.out];exact hB.setZ k (by first | exact HW.out | omega)
       case measure=>simp[intOf] <;> omega
     ·obtain ⟨bx,ox,rfl,hbx,hcx⟩:=qx.at_ hx1
      obtain ⟨px,p1,lo,e1,e2,e3,hp1,hlo,hpd⟩:=ED hu hxl hp;have hy0:ys.getD k 0=0:=C5 ys k (by rw[HL'.out];omega)
      simp only[hy0,Nat.mul_zero,Nat.add_zero] at HMY;have f3:=Uq q (by omega)
      obtain ⟨mo,hmo⟩ : ∃ mo,mo=q % 4294967296:=⟨_,rfl⟩;rw[←hmo] at f3;have hqd:q / 4294967296 < 4294967296:=by omega
      have HVS:=Lib.hid (KM HV.out hbr hp1 (show q=q+0 by omega))
      simp only[Nat.mul_zero,Nat.add_zero] at HVS;rw[←HMX.out,←HMY.out,←Nat.pow_succ,←hlo,←hmo] at HVS;have hlol:lo < 4294967296:=by omega
      have hmol:mo < 4294967296:=by omega
      have HW:=Lib.hid (KL lo mo br hlol hmol hbr);have HPD:=Lib.hid hpd;have HQD:=Lib.hid hqd;have hp64:p1 < 18446744073709551616:=by omega
      have hq64:q < 18446744073709551616:=by omega
      generalize xs.getD k 0=x at *;generalize (fill ds N).getD k 0=old at *;clear hlo hmo hp1 hy0 HMX HMY hpd hqd;by_cases hbt:lo < mo+br
      ·rw[if_pos hbt] at HVS
       have hd:decide ((lo:Int) - (mo:Int) - (br:Int) < 0)=true:=by simp;omega
       clear hp64 hq64;go_wp2
       go_roundw
       case rel =>
        refine ⟨k+1,p1 / 4294967296,q / 4294967296,1,ds++[(lo+4294967296+4294967296 - mo - br) % 4294967296],by omega,by go_num,by go_num,by go_num,rfl,HPD.out,HQD.out,by omega,HLEN.out _,hdw.out.append (W32.mk (by omega) W32.nil),?_,?_,qx.setCell (Nat.le_refl _) _,qy.setCell (Nat.le_refl _) _,hb.setCell (Nat.le_refl _) _⟩
        ·unfold Hid;rw[HVAL.out];exact HVS.out
        ·rw[←HSET.out];exact hB.setZ k (by first | exact HW.out | omega)
       case measure=>simp[intOf] <;> omega
      ·rw[if_neg hbt] at HVS
       have hd:decide ((lo:Int) - (mo:Int) - (br:Int) < 0)=false:=by simp;omega
       clear hp64 hq64;go_wp2
       go_roundw
       case rel =>
        refine ⟨k+1,p1 / 4294967296,q / 4294967296,0,ds++[(lo+4294967296+4294967296 - mo - br) % 4294967296],by omega,by go_num,by go_num,by go_num,rfl,HPD.out,HQD.out,by omega,HLEN.out _,hdw.out.append (W32.mk (by omega) W32.nil),?_,?_,qx.setCell (Nat.le_refl _) _,qy.setCell (Nat.le_refl _) _,hb.setCell (Nat.le_refl _) _⟩
        ·unfold Hid;rw[HVAL.out];exact HVS.out
        ·rw[←HSET.out];exact hB.setZ k (by first | exact HW.out | omega)
       case measure=>simp[intOf] <;> omega
    ·by_cases hy1:k < n'
     ·have hx0:xs.getD k 0=0:=C5 xs k (by rw[HL.out];omega)
      simp only[hx0,Nat.mul_zero,Nat.add_zero] at HMX;have e3:=Uq p (by omega)
      obtain ⟨lo,hlo⟩ : ∃ lo,lo=p % 4294967296:=⟨_,rfl⟩;rw[←hlo] at e3;have hpd:p / 4294967296 < 4294967296:=by omega
      obtain ⟨by1,oy,rfl,hby,hcy⟩:=qy.at_ hy1;obtain ⟨py,q1,mo,f1,f2,f3,hq1,hmo,hqd⟩:=ED hv hyl hq;have HVS:=Lib.hid (KM HV.out hbr (show p=p+0 by omega) hq1)
      simp only[Nat.mul_zero,Nat.add_zero] at HVS;rw[←HMX.out,←HMY.out,←Nat.pow_succ,←hlo,←hmo] at HVS;have hlol:lo < 4294967296:=by omega
      have hmol:mo < 4294967296:=by omega
      have HW:=Lib.hid (KL lo mo br hlol hmol hbr);have HPD:=Lib.hid hpd;have HQD:=Lib.hid hqd;have hp64:p < 18446744073709551616:=by omega
      have hq64:q1 < 18446744073709551616:=by omega
      generalize ys.getD k 0=y at *;generalize (fill ds N).getD k 0=old at *;clear hlo hmo hx0 hq1 HMX HMY hpd hqd;by_cases hbt:lo < mo+br
      ·rw[if_pos hbt] at HVS
       have hd:decide ((lo:Int) - (mo:Int) - (br:Int) < 0)=true:=by simp;omega
       clear hp64 hq64;go_wp2
       go_roundw
       case rel =>
        refine ⟨k+1,p / 4294967296,q1 / 4294967296,1,ds++[(lo+4294967296+4294967296 - mo - br) % 4294967296],by omega,by go_num,by go_num,by go_num,rfl,HPD.out,HQD.out,by omega,HLEN.out _,hdw.out.append (W32.mk (by omega) W32.nil),?_,?_,qx.setCell (Nat.le_refl _) _,qy.setCell (Nat.le_refl _) _,hb.setCell (Nat.le_refl _) _⟩
        ·unfold Hid;rw[HVAL.out];exact HVS.out
        ·rw[←HSET.out];exact hB.setZ k (by first | exact HW.out | omega)
       case measure=>simp[intOf] <;> omega
      ·rw[if_neg hbt] at HVS
       have hd:decide ((lo:Int) - (mo:Int) - (br:Int) < 0)=false:=by simp;omega
       clear hp64 hq64;go_wp2
       go_roundw
       case rel =>
        refine ⟨k+1,p / 4294967296,q1 / 4294967296,0,ds++[(lo+4294967296+4294967296 - mo - br) % 4294967296],by omega,by go_num,by go_num,by go_num,rfl,HPD.out,HQD.out,by omega,HLEN.out _,hdw.out.append (W32.mk (by omega) W32.nil),?_,?_,qx.setCell (Nat.le_refl _) _,qy.setCell (Nat.le_refl _) _,hb.setCell (Nat.le_refl _) _⟩
        ·unfold Hid;rw[HVAL.out];exact HVS.out
        ·rw[←HSET.out];exact hB.setZ k (by first | exact HW.out | omega)
       case measure=>simp[intOf] <;> omega
     ·exfalso;have:=HNE.out;omega
   ·obtain rfl:k=N:=by omega
    rw[CV hdl.out] at hB;have hvd:val ds=R:=by
     have h:=HV.out;rw[List.take_of_length_le (by rw[HL.out];omega),List.take_of_length_le (by rw[HL'.out];omega)] at h
     have hl:=BP hdw.out;rw[hdl.out] at hl;exact Y6 h hl HR.out HRN.out
    have hrd:=hB.rd;rw[hdl.out] at hrd;have htr:=Cx (c:=k) _ hrd hdw.out (Nat.le_refl _) (by omega)
    have HT:=Lib.hid htr;have HD:=Lib.hid hrd;have HV2:=Lib.hid hvd;clear htr hrd hvd;go_wp2_with fail
    refine HT.out.mono ?_;rintro e w3 ⟨m,hm,ht,rfl,rfl⟩;clear HT;go_wp2
    go_ret
    have r3:=HD.out.take (j:=m) (by rw[←hdl.out];exact hm)
    rw[ht,HV2.out] at r3;exact ⟨_,m,m,rfl,r3,Nat.le_refl _,by have:=hdl.out;omega,by rw[HG.out];exact hb⟩
def AaI (w wr:World)(A:Option Addr)(n c:Nat)(A':Option Addr)(n' c' p q G M:Nat):Prop :=
 Rd .u32 wr wr.heap.size A n (Ae p)∧Rd .u32 wr wr.heap.size A' n' (Ae q)∧n≤c∧c≤9223372036854775807∧n'≤c'∧c'≤9223372036854775807∧q≤p∧p≤M∧Nat.gcd p q=G∧Below w.heap.size w wr
theorem RetMag.of_own {w w' w0:World}{v:Value}{m:Nat}(h:Own .u32 97 w0 w' v (Ae m))(hb:Below w.heap.size w w0):RetMag w m (.returned v) w':=by
 obtain ⟨A,n,c,rfl,h1,h2,h3⟩:=h.form';exact ⟨A,n,c,rfl,h1,h2,h3,AA hb h.2⟩
theorem YN (w:World):Below w.heap.size w w.drew:=(Below.refl _ _).drew
theorem Mt {n q:Nat}(hl:(Ae q).length=n)(hn:0 < n):0 < q:=by
 rcases Nat.eq_zero_or_pos q with h | h
 ·rw[h,AY] at hl;simp at hl;omega
 ·exact h
theorem LR {n q:Nat}(hl:(Ae q).length=n)(hn:n≤2):q < 18446744073709551616:=by
 have:=Ca q;rw[hl] at this;exact Nat.lt_of_lt_of_le this (Nat.le_trans (Nat.pow_le_pow_right (by omega) hn) (by decide))
theorem Cq.cells4 {w:World}{g u0 u1 v0 v1:Nat}{even:Bool}(h:Cq w g u0 u1 v0 v1 even):w.cell? ⟨g,0,none⟩=some (.int .u64 u0)∧w.cell? ⟨g,1,none⟩=some (.int .u64 u1)∧w.cell? ⟨g,2,none⟩=some (.int .u64 v0)∧w.cell? ⟨g,3,none⟩=some (.int .u64 v1):=⟨h.c0,h.c1,h.c2,h.c3⟩
set_option maxHeartbeats 4000000 in
set_option maxRecDepth 100000 in
theorem S6 {A A' : Option Addr} {n n' c c' X Y : Nat} (w : World) (hr : Rd .u32 w w.heap.size A n (Ae X)) (hr' : Rd .u32 w w.heap.size A' n' (Ae Y)) (hn : n ≤ 549755813888) (hn' : n' ≤ 549755813888) (hc : n ≤ c) (hc2 : c ≤ 9223372036854775807) (hc' : n' ≤ c') (hc2' : c' ≤ 9223372036854775807) :
  Calls Tryz.prog 165 #[.slice A n c,.slice A' n' c'] w (RetMag w (Nat.gcd X Y)):=by
 obtain ⟨G,hG⟩ : ∃ G,Nat.gcd X Y=G:=⟨_,rfl⟩;rw[hG];obtain ⟨M,hMX,hMY,hML⟩ : ∃ M,X≤M∧Y≤M∧(Ae M).length≤549755813888:=by
  rcases Nat.le_total X Y with h | h
  ·exact ⟨Y,h,Nat.le_refl _,by rw[hr'.len];exact hn'⟩
  ·exact ⟨X,Nat.le_refl _,h,by rw[hr.len];exact hn⟩
 have HM:Hid (∀ p m,(Ae p).length=m→p≤M→m≤549755813888):=fun p m h hp=>by rw[←h];exact Nat.le_trans (AW hp) hML
 have HC:=Lib.hid (EO (c:=c) (c':=c') w hr hr' (by omega) (by omega))
 have HG:=Lib.hid hG;clear hG;have HS:Hid (∀ wr,Below w.heap.size w wr→(X < Y→AaI w wr A' n' c' A n c Y X G M)∧(Y≤X→AaI w wr A n c A' n' c' X Y G M)):=fun wr hb =>
  ⟨fun h=>⟨hr'.call hb,hr.call hb,hc',hc2',hc,hc2,by omega,hMY,by rw[Nat.gcd_comm];exact HG.out,hb⟩,fun h=>⟨hr.call hb,hr'.call hb,hc,hc2,hc',hc2',h,hMX,HG.out,hb⟩⟩
 clear hr hr' hc hc2 hc' hc2' hn hn' HG;go_enter Tryz.func165,Tryz.ntmps165
 go_wp2_with fail
 refine HC.out.mono ?_;rintro e w1 ⟨rfl,hq1⟩;have b1:=BR hq1;clear hq1
 go_upto_if 15 with (fail)
 go_cut [0,1] (fun x y wz => ∃ A n c A' n' c' p q,x = .slice A n c∧y = .slice A' n' c'∧Hid (AaI w wz A n c A' n' c' p q G M))
 case first =>
  rcases Nat.lt_or_ge X Y with hxy | hxy
  ·have hcd:decide (BT X Y < 0)=true:=by rw[Ha hxy];rfl
   have hcp:BT X Y < 0:=by rw[Ha hxy];omega
   have HE:=Lib.hid ((HS.out w1 b1).1 hxy);generalize BT X Y=cp at *;go_wp2_with fail
   go_meet
   case rel=>exact ⟨_,_,_,_,_,_,_,_,rfl,rfl,HE⟩
  ·have hcd:decide (BT X Y < 0)=false:=by have:=Hc hxy;simp;omega
   have hcp:0≤BT X Y:=Hc hxy;have HE:=Lib.hid ((HS.out w1 b1).2 hxy);generalize BT X Y=cp at *;go_wp2_with fail
   go_meet
   case rel=>exact ⟨_,_,_,_,_,_,_,_,rfl,rfl,HE⟩
 case rest =>
  obtain ⟨A,n,c,A',n',c',p,q,rfl,rfl,HE⟩:=hcut;clear HS HC b1;go_wp2_with fail
  go_loopg [0,1,5,6,7,8,9] q (fun gq x y _ _ _ _ _ wr => ∃ A n c A' n' c' p,x = .slice A n c∧y = .slice A' n' c'∧Hid (AaI w wr A n c A' n' c' p gq G M))
  case atStart=>exact ⟨_,_,_,_,_,_,_,rfl,rfl,HE⟩
  case round =>
   clear HE;obtain ⟨q,rfl⟩ : ∃ i,i=gk:=⟨_,rfl⟩;obtain ⟨A,n,c,A',n',c',p,rfl,rfl,HP⟩:=hrel;obtain ⟨hr,hr',hc,hc2,hc',hc2',hqp,hpM,hgc,bR⟩:=HP.out;have HGC:=Lib.hid hgc;have HPM:Hid (q≤p∧p≤M):=⟨hqp,hpM⟩;have hln:=HM.out p n hr.len hpM;have hln':=HM.out q n' hr'.len (by omega)
   have hnn:n'≤n:=by rw[←hr.len,←hr'.len];exact AW hqp
   clear HP hgc;by_cases h2:n'≤2
   ·have hgt:decide ((2:Int) < (n':Int))=false:=by simp;omega
    by_cases h0:n'=0
    ·subst h0
     have hq0:q=0:=(AQ q).1 hr'.len;subst hq0;have hpG:p=G:=by have:=HGC.out;rwa [Nat.gcd_zero_right] at this
     subst hpG;have HCL:=Lib.hid (FG (c:=c) wr hr (by omega))
     clear HGC HPM HM;go_wp2_with fail
     refine HCL.out.mono ?_;rintro e W5 ⟨v5,rfl,o5⟩;have F:=Lib.hid (RetMag.of_own o5 bR);obtain ⟨A5,n5,c5,rfl,_⟩:=o5.form';clear HCL o5;go_wp2
     go_ret
     exact F.out
    ·have hne:((n':Int) == 0)=false:=by simp;omega
     have hq0:0 < q:=Mt hr'.len (by omega)
     have hq64:q < 18446744073709551616:=LR hr'.len h2;have HTY:=Lib.hid (fun W (h:Rd .u32 W W.heap.size A' n' (Ae q))=>D7 (c:=c') W h hq64)
     by_cases h3:2 < n
     ·have hgt3:decide ((2:Int) < (n:Int))=true:=by simp;omega
      have HDV:=Lib.hid (Jj (c:=c) (c':=c') wr hr hr' hln hln' hq0);have hr64:p % q < 18446744073709551616:=Nat.lt_trans (Nat.mod_lt _ hq0) hq64;have HGW:=Lib.hid (fun W=>Lf q (p % q) W hq64 hr64)
      have hGe:Nat.gcd q (p % q)=G:=by rw[Nat.gcd_comm,←Nat.gcd_rec,Nat.gcd_comm];exact HGC.out
      rw[hGe] at HGW;have hG64:G < 18446744073709551616:=by rw[←hGe];exact Nat.lt_of_le_of_lt (Nat.gcd_le_left _ hq0) hq64
      have HFW:=Lib.hid (fun W=>Cr G W hG64)
      generalize p % q=r at *;clear hGe hq0 hq64 HGC HPM HM hG64;go_wp2_with fail
      refine HDV.out.mono ?_;rintro e W5 ⟨A1,n1,c1,A2,n2,c2,rfl,r1,r2,h1,h1',h2,h2',d5⟩;replace hr':=hr'.call d5
      replace bR:=AA bR d5
      have HTX:=Lib.hid (fun W (h:Rd .u32 W W.heap.size A2 n2 (Ae r))=>D7 (c:=c2) W h hr64)
      clear HDV hr r1 hr64 d5;go_wp2_with fail
      refine (HTY.out _ hr').mono ?_;rintro e W6 ⟨rfl,hq6⟩;have d6:=BR hq6;replace bR:=AA bR d6
      replace r2:=r2.call d6
      clear hq6 d6 HTY;go_wp2_with fail
      refine (HTX.out _ r2).mono ?_;rintro e W7 ⟨rfl,hq7⟩;have d7:=BR hq7;replace bR:=AA bR d7
      clear hq7 d7 HTX;go_wp2_with fail
      refine (HGW.out _).mono ?_;rintro e W8 ⟨rfl,hq8⟩;have d8:=BR hq8;replace bR:=AA bR d8
      clear hq8 d8 HGW;go_wp2_with fail
      refine (HFW.out _).mono ?_;rintro e W9 ⟨A9,n9,c9,rfl,r9,h9,h9',d9⟩;go_wp2
      go_ret
      exact ⟨A9,n9,c9,rfl,r9,h9,h9',AA bR d9⟩
     ·have hgt3:decide ((2:Int) < (n:Int))=false:=by simp;omega
      have hp64:p < 18446744073709551616:=LR hr.len (by omega)
      have HTX:=Lib.hid (fun W (h:Rd .u32 W W.heap.size A n (Ae p))=>D7 (c:=c) W h hp64)
      have HGW:=Lib.hid (fun W=>Lf p q W hp64 hq64)
      rw[HGC.out] at HGW;have hG64:G < 18446744073709551616:=by rw[←HGC.out];exact Nat.lt_of_le_of_lt (Nat.gcd_le_right _ hq0) hq64
      have HFW:=Lib.hid (fun W=>Cr G W hG64)
      clear hq0 hq64 HGC HPM HM hG64 hp64;go_wp2_with fail
      refine (HTX.out _ hr).mono ?_;rintro e W6 ⟨rfl,hq6⟩;have d6:=BR hq6;replace bR:=AA bR d6
      replace hr':=hr'.call d6
      clear hq6 d6 HTX;go_wp2_with fail
      refine (HTY.out _ hr').mono ?_;rintro e W7 ⟨rfl,hq7⟩;have d7:=BR hq7;replace bR:=AA bR d7
      clear hq7 d7 HTY;go_wp2_with fail
      refine (HGW.out _).mono ?_;rintro e W8 ⟨rfl,hq8⟩;have d8:=BR hq8;replace bR:=AA bR d8
      clear hq8 d8 HGW;go_wp2_with fail
      refine (HFW.out _).mono ?_;rintro e W9 ⟨A9,n9,c9,rfl,r9,h9,h9',d9⟩;go_wp2
      go_ret
      exact ⟨A9,n9,c9,rfl,r9,h9,h9',AA bR d9⟩
   ·obtain ⟨D, hD, hA1, hco⟩ := Ns (c := c) (c' := c') wr hr hr' hqp (by omega) hln hc hc2
    have HCO:=Lib.hid hco;have hq0:0 < q:=Mt hr'.len (by omega)
    have HDV:=Lib.hid (fun W (h:Rd .u32 W W.heap.size A n (Ae p)) (h':Rd .u32 W W.heap.size A' n' (Ae q))=>Jj (c:=c) (c':=c') W h h' hln hln' hq0)
    have HQ0:=Lib.hid hq0;have hgt:decide ((2:Int) < (n':Int))=true:=by simp;omega
    have hgt':2 < n':=by omega
    clear hco hq0;go_wp2_with fail
    refine HCO.out.mono ?_;rintro e W5 ⟨u0,u1,v0,v1,even,rfl,hv,d5⟩;have HV:=Lib.hid hv;clear HCO hv;obtain ⟨W6,hW6⟩ : ∃ W6,W6=W5.alloc (.cells #[.int .u64 u0,.int .u64 u1,.int .u64 v0,.int .u64 v1,.bool even] 203):=⟨_,rfl⟩;have d6:Below W5.heap.size W5 W6:=by rw[hW6];exact Ek _ _
    have p5:Cq W6 W5.heap.size u0 u1 v0 v1 even:=by rw[hW6];exact Cq.new ..
    replace hr:=(hr.call d5).call d6
    replace hr':=(hr'.call d5).call d6
    replace bR:=AA (AA bR d5) d6
    go_upto_region 5 with (fail)
    rw[←hW6];clear hW6 d5 d6;generalize W5.heap.size=g5 at *;by_cases hv0:v0=0
    ·subst hv0
     have z2:=p5.c2;have z2':W6.cell? ⟨g5,2,none⟩=some (.int .u64 0):=z2;clear z2;go_wp2_with fail
     refine (HDV.out _ hr hr').mono ?_;rintro e W7 ⟨A1,n1,c1,A2,n2,c2,rfl,r1,r2,h1,h1',h2,h2',d7⟩;replace hr':=hr'.call d7
     replace bR:=AA bR d7
     clear HDV z2';go_wp2_with fail
     go_roundg (p % q)
     case rel=>exact ⟨A',n',c',A2,n2,c2,q,rfl,rfl,hr',r2,hc',hc2',h2,h2',by have:=Nat.mod_lt p HQ0.out;omega,by have:=HPM.out;omega,by rw[Nat.gcd_comm,←Nat.gcd_rec,Nat.gcd_comm];exact HGC.out,bR⟩
     case measure=>exact Nat.mod_lt p HQ0.out
    ·obtain ⟨pp,aa,hct⟩:=HV.out.resolve_left hv0
     obtain ⟨fu0,fu1,fv0,fv1⟩:=hct.fits (by omega) (by omega)
     obtain ⟨nx,ny,hleh⟩:=hct.leh (X:=p) (Y:=q) (D:=D) (ex:=p % D) (ey:=q % D) (by omega) (by rw[Nat.mul_comm];exact (Nat.div_add_mod p D).symm) (by rw[Nat.mul_comm];exact (Nat.div_add_mod q D).symm) (Nat.mod_lt _ hD) (Nat.mod_lt _ hD)
     have HL:=Lib.hid hleh;have hqB:q < 4294967296 ^ n':=by have:=Ca q;rwa [hr'.len] at this
     have hqB1:q < 4294967296 ^ (max n n'):=Nat.lt_of_lt_of_le hqB (Nat.pow_le_pow_right (by omega) (by omega))
     have hqB2:q < 4294967296 ^ (max n' n):=Nat.lt_of_lt_of_le hqB (Nat.pow_le_pow_right (by omega) (by omega))
     have hb0:((v0:Int) == 0)=false:=by simp;omega
     obtain ⟨z0,z1,z2,z3,z4,_⟩:=p5.all;cases even
     ·have H1:=Lib.hid (fun W (h:Rd .u32 W W.heap.size A n (Ae p)) (h':Rd .u32 W W.heap.size A' n' (Ae q))=>Fc (c:=c') (c':=c) (R:=nx) W h' h (Ai _) (Ai _) hln' hln fv0 fu0 (by rw[An,An,Nat.mul_comm,Nat.mul_comm u0];exact (hleh.od rfl).1) (Nat.lt_of_le_of_lt hleh.leY hqB2))
      have H2:=Lib.hid (fun W (h:Rd .u32 W W.heap.size A n (Ae p)) (h':Rd .u32 W W.heap.size A' n' (Ae q))=>Fc (c:=c) (c':=c') (R:=ny) W h h' (Ai _) (Ai _) hln hln' fu1 fv1 (by rw[An,An,Nat.mul_comm,Nat.mul_comm v1];exact (hleh.od rfl).2) (Nat.lt_trans hleh.ltY hqB1))
      clear hct hleh HV HDV hqB hqB1 hqB2 hA1;go_wp2_with fail
      have d0:=YN W6;replace bR:=AA bR d0
      replace hr:=hr.call d0
      replace hr':=hr'.call d0
      replace p5:=p5.call d0
      have y0:=p5.cells4
      go_region_held3 (fun w'=>w'.cell? ⟨g5,0,none⟩=some (.int .u64 u0)∧w'.cell? ⟨g5,1,none⟩=some (.int .u64 u1)∧w'.cell? ⟨g5,2,none⟩=some (.int .u64 v0)∧w'.cell? ⟨g5,3,none⟩=some (.int .u64 v1))
       (first | (with_reducible exact y0) | (with_reducible exact y1) | (with_reducible exact y2))
       ((first
        | (go_at_call 194;(with_reducible refine (H1.out _ hr hr').mono ?_);rintro e U1 ⟨A1,n1,c1,rfl,r1,h1,h1',d1⟩;have y1:=(p5.call d1).cells4;have s1:=hr.call d1;have s1':=hr'.call d1)
        | (go_at_call 194;(with_reducible refine (H2.out _ s1 s1').mono ?_);rintro e U2 ⟨A2,n2,c2,rfl,r2,h2,h2',d2⟩;have y2:=((p5.call d1).call d2).cells4)))
      replace bR:=AA (AA bR d1) d2
      go_wp2_with fail
      go_roundg ny
      case rel=>exact ⟨A1,n1,c1,A2,n2,c2,nx,rfl,rfl,r1.call d2,r2,h1,h1',h2,h2',by have:=HL.out.lt;omega,by have:=HL.out.leY;have:=HPM.out;omega,by rw[HL.out.gcd];exact HGC.out,bR⟩
      case measure=>have:=HL.out.ltY;omega
     ·have H1:=Lib.hid (fun W (h:Rd .u32 W W.heap.size A n (Ae p)) (h':Rd .u32 W W.heap.size A' n' (Ae q))=>Fc (c:=c) (c':=c') (R:=nx) W h h' (Ai _) (Ai _) hln hln' fu0 fv0 (by rw[An,An,Nat.mul_comm,Nat.mul_comm v0];exact (hleh.ev rfl).1) (Nat.lt_of_le_of_lt hleh.leY hqB1))
      have H2:=Lib.hid (fun W (h:Rd .u32 W W.heap.size A n (Ae p)) (h':Rd .u32 W W.heap.size A' n' (Ae q))=>Fc (c:=c') (c':=c) (R:=ny) W h' h (Ai _) (Ai _) hln' hln fv1 fu1 (by rw[An,An,Nat.mul_comm,Nat.mul_comm u1];exact (hleh.ev rfl).2) (Nat.lt_trans hleh.ltY hqB2))
      clear hct hleh HV HDV hqB hqB1 hqB2 hA1;go_wp2_with fail
      have d0:=YN W6;replace bR:=AA bR d0
      replace hr:=hr.call d0
      replace hr':=hr'.call d0
      replace p5:=p5.call d0
      have y0:=p5.cells4
      go_region_held3 (fun w'=>w'.cell? ⟨g5,0,none⟩=some (.int .u64 u0)∧w'.cell? ⟨g5,1,none⟩=some (.int .u64 u1)∧w'.cell? ⟨g5,2,none⟩=some (.int .u64 v0)∧w'.cell? ⟨g5,3,none⟩=some (.int .u64 v1))
       (first | (with_reducible exact y0) | (with_reducible exact y1) | (with_reducible exact y2))
       ((first
        | (go_at_call 194;(with_reducible refine (H1.out _ hr hr').mono ?_);rintro e U1 ⟨A1,n1,c1,rfl,r1,h1,h1',d1⟩;have y1:=(p5.call d1).cells4;have s1:=hr.call d1;have s1':=hr'.call d1)
        | (go_at_call 194;(with_reducible refine (H2.out _ s1 s1').mono ?_);rintro e U2 ⟨A2,n2,c2,rfl,r2,h2,h2',d2⟩;have y2:=((p5.call d1).call d2).cells4)))
      replace bR:=AA (AA bR d1) d2
      go_wp2_with fail
      go_roundg ny
      case rel=>exact ⟨A1,n1,c1,A2,n2,c2,nx,rfl,rfl,r1.call d2,r2,h1,h1',h2,h2',by have:=HL.out.lt;omega,by have:=HL.out.leY;have:=HPM.out;omega,by rw[HL.out.gcd];exact HGC.out,bR⟩
      case measure=>have:=HL.out.ltY;omega
def YZ (A:Option Addr)(c:Nat)(xs:List Nat)(w:World)(e:Ending)(w':World):Prop :=
 ∃ m,m≤xs.length∧xs.take m=Ae (val xs)∧e = .returned (.slice A m c)∧w=w'
set_option maxRecDepth 100000 in
theorem KY {A : Option Addr} {n c B : Nat} {xs : List Nat} (w : World) (hr : Rd .u32 w B A n xs) (hx : W32 xs) (hnc : n ≤ c) (hc : c ≤ 9223372036854775807) :
  Calls Tryz.prog 136 #[.slice A n c] w (YZ A c xs w):=by
 have HL:=Lib.hid hr.len;have HX:=Lib.hid hx;clear hx;go_enter Tryz.func136,Tryz.ntmps136
 go_wp2
 go_loop [3] (fun i => ∃ k:Nat,k≤n∧i = .int .i64 k∧Hid (∀ j,k≤j→xs.getD j 0=0)) (fun i=>(intOf i).toNat)
 case atStart=>exact ⟨n,Nat.le_refl _,rfl,fun j hj=>by rw[List.getD_eq_getElem?_getD,List.getElem?_eq_none (by rw[HL.out];exact hj)];rfl⟩
 case round =>
  obtain ⟨k,hk,rfl,HZ⟩:=hrel;by_cases h0:0 < k
  ·obtain ⟨b,off,rfl,hbB,hcell⟩:=hr.at_ (j:=k - 1) (by omega)
   by_cases hz:xs.getD (k - 1) 0=0
   ·have HZ2:Hid (∀ j,k - 1≤j→xs.getD j 0=0):=fun j hj=>by
     by_cases e:j=k - 1
     ·rw[e];exact hz
     ·exact HZ.out j (by omega)
    rw[hz] at hcell;clear hz;go_wp2
    go_round
    case rel=>exact ⟨k - 1,by omega,by go_num,HZ2⟩
    case measure=>simp[intOf] <;> omega
   ·have HZ2:=Lib.hid hz
    have hz':((xs.getD (k - 1) 0:Nat):Int)≠0:=by omega
    generalize hy:xs.getD (k - 1) 0=y at *;have hyb:(((y:Nat):Int) == 0)=false:=by simp;omega
    have HY:=Lib.hid hy;clear hy hz hz';go_wp2
    go_ret
    exact ⟨k,by rw[HL.out];exact hk,DN xs HX.out k (by rw[HL.out];exact hk) HZ.out (.inr (by rw[HY.out];exact HZ2.out)),rfl,rfl⟩
  ·obtain rfl:k=0:=by omega
   go_wp2
   go_ret
   exact ⟨0,by omega,DN xs HX.out 0 (by omega) HZ.out (.inl rfl),by cases A <;> rfl,rfl⟩
def RE (w:World)(B n c:Nat)(A:Option Addr)(v:Nat)(e:Ending)(w':World):Prop :=
 ∃ m,e = .returned (.slice A m c)∧Rd .u32 w B A m (Ae v)∧m≤n∧w=w'
theorem BX {A:Option Addr}{n c B:Nat}{xs:List Nat}(w:World)(hr:Rd .u32 w B A n xs)(hx:W32 xs)(hnc:n≤c)(hc:c≤9223372036854775807) :
  Calls Tryz.prog 136 #[.slice A n c] w (RE w B n c A (val xs)):=by
 refine (KY w hr hx hnc hc).mono ?_;rintro e w1 ⟨m,hm,ht,rfl,rfl⟩;have hm':m≤n:=by have:=hr.len;omega
 have r1:=hr.take hm';rw[ht] at r1;exact ⟨m,rfl,r1,hm',rfl⟩
def Adi (w:World)(v:Value)(e:Ending)(w':World):Prop:=e = .returned v∧w=w'
set_option maxRecDepth 100000 in
theorem Er {A:Option Addr}{n c B i:Nat}{xs:List Nat}(w:World)(hr:Rd .u32 w B A n xs)(hx:W32 xs)(hn:n≤9223372036854775807) :
  Calls Tryz.prog 157 #[.slice A n c,.int .i64 i] w (Adi w (.int .u64 (xs.getD i 0:Nat))):=by
 by_cases h:i < n
 ·obtain ⟨b,off,rfl,_,hc⟩:=hr.at_ h
  have hl:=hx.getD i;generalize xs.getD i 0=y at *;have i1:(0:Int)≤(i:Int):=by omega
  have i2:(i:Int) < (n:Int):=by omega
  go_enter Tryz.func157,Tryz.ntmps157
  go_wp2
  go_ret
  exact ⟨rfl,rfl⟩
 ·have hd:decide ((i:Int) < (n:Int))=false:=by simp;omega
  have hd2:decide (i < n)=false:=by simp;omega
  have HZ:Hid (xs.getD i 0=0):=C5 xs i (by rw[hr.len];omega)
  rw[HZ.out];go_enter Tryz.func157,Tryz.ntmps157
  go_wp2
  go_ret
  exact ⟨rfl,rfl⟩
set_option maxRecDepth 100000 in
theorem JF {A:Option Addr}{n c B:Nat}{xs:List Nat}(neg:Bool)(w:World)(hr:Rd .u32 w B A n xs)(hB:B≤w.heap.size)(hx:W32 xs)(hnc:n≤c)(hc:c≤9223372036854775807)(hn:n≤1099511627776) :
  Calls Tryz.prog 153 #[.bool neg,.slice A n c] w (RetInt w (sgn neg (val xs))):=by
 have pn:=Pr.new w false none 0 0;have al:=Ek w (.cells #[.bool false,.slice none 0 0] 24);have HT:=Lib.hid (BX (c:=c) (w.alloc (.cells #[.bool false,.slice none 0 0] 24)) (hr.alloc hB _) hx hnc hc);go_enter Tryz.func153,Tryz.ntmps153
 go_wp2_with fail
 refine HT.out.mono ?_;rintro e w1 ⟨m,rfl,r1,hm,rfl⟩;clear HT hr hx;generalize w.alloc (.cells #[.bool false,.slice none 0 0] 24)=W at *;generalize val xs=v at *;have km:m=0↔v=0:=by rw[←r1.len];exact AQ v
 have HL:=Lib.hid r1.len;by_cases h0:m=0
 ·obtain rfl:=km.1 h0
  subst h0;obtain ⟨q0,q1,f0,f1,k0,k1⟩:=pn.all (.bool false) (.slice none 0 0);go_wp2
  ((try simp only[Exit.inBlock,Exit.then]);refine bodyPost_ret (by simp[results,Tryz.results153,go_sem,k0,k1];try rfl) rfl ?_)
  rw[Gv];exact RetInt.stored (CInt.zero _) pn al (Nat.le_refl _)
 ·have hne:((m:Int) == 0)=false:=by simp;omega
  have hv:Hid (v≠0):=fun h=>h0 (km.2 h)
  have q0:=pn.cell0;have q1:=pn.cell1;clear km;go_wp2_with (at_builtin;refine Aw Tryz.elemU32 Tryz.underlying22 (Own.nil (w0:=W) (Below.refl _ _)) r1 rfl rfl rfl rfl (by simp;omega) (by simp;omega) ?_;intro v2 w2 o2 _ _;rw[List.nil_append] at o2;obtain ⟨A2,n2,c2,rfl,r2,h2,h2'⟩:=o2.form';have b2:=o2.2;have p2:=pn.call b2;obtain ⟨q0,q1,f0,f1,k0,k1⟩:=p2.all (.bool neg) (.slice A2 n2 c2))
  ((try simp only[Exit.inBlock,Exit.then]);refine bodyPost_ret (by simp[results,Tryz.results153,go_sem,k0,k1];try rfl) rfl ?_)
  exact RetInt.stored (CInt.of r2 hv.out h2 h2') p2 (AA al b2) (Nat.le_refl _)
theorem QL {A:Option Addr}{n c v:Nat}(neg:Bool)(w:World)(hr:Rd .u32 w w.heap.size A n (Ae v))(hnc:n≤c)(hc:c≤9223372036854775807)(hn:n≤1099511627776) :
  Calls Tryz.prog 153 #[.bool neg,.slice A n c] w (RetInt w (sgn neg v)):=by
 have h:=JF neg w hr (Nat.le_refl _) (Ai v) hnc hc hn;rw[An] at h;exact h
set_option maxRecDepth 100000 in
theorem DF {s:Bool}{A:Option Addr}{n c:Nat}{x:Int}(w:World)(ha:AInt w s A n c x)(hn:n≤1099511627776) :
  Calls Tryz.prog 150 #[.agg #[.bool s,.slice A n c]] w (RetInt w x):=by
 obtain ⟨ds,h1,h2,h3,h4,rfl⟩:=ha;obtain ⟨W,hW,bW,pa,pr⟩:=SX w s A n c;have HM:=Lib.hid (JF s W (h1.call bW) (Nat.le_refl _) h2 h3 h4 hn);have a0:=pa.cell0;have a1:=pa.cell1;generalize sgn s (val ds)=z at *;go_enter Tryz.func150,Tryz.ntmps150
 go_wp2_with fail
 rw[←hW];clear hW;refine HM.out.mono ?_;rintro e w2 ⟨neg,A2,n2,c2,rfl,ci,d2⟩;have p2:=pr.call d2;obtain ⟨q0,q1,f0,f1,k0,k1⟩:=p2.all (.bool neg) (.slice A2 n2 c2);go_wp2
 ((try simp only[Exit.inBlock,Exit.then]);refine bodyPost_ret (by simp[results,Tryz.results150,go_sem,k0,k1];try rfl) rfl ?_)
 exact RetInt.stored ci p2 (AA bW d2) (by omega)
theorem AcL {w:World}{v v':Value}{a b:Nat}(h:v=v'):VW w v' (.returned v) ((w.drewN a).drewN b):=⟨by rw[h],a+b,by rw[World.drewN_drewN]⟩
set_option maxHeartbeats 1000000 in
set_option maxRecDepth 100000 in
theorem CH {A A' : Option Addr} {n n' c c' B B' : Nat} {zs zs' : List Nat} (w : World) (hr0 : Rd .u32 w B A n zs) (hr0' : Rd .u32 w B' A' n' zs') (hz : W32 zs) (hz' : W32 zs') (hnc : n ≤ c) (hc : c ≤ 9223372036854775807) (hnc' : n' ≤ c') (hc' : c' ≤ 9223372036854775807) :
  Calls Tryz.prog 170 #[.slice A n c,.slice A' n' c'] w (VW w (.int .i64 (BT (val zs) (val zs')))):=by
 have H1:=Lib.hid (BX (c:=c) w hr0 hz hnc hc);have H2:=Lib.hid (BX (c:=c') w hr0' hz' hnc' hc');go_enter Tryz.func170,Tryz.ntmps170
 go_wp2_with fail
 refine H1.out.mono ?_;rintro e w1 ⟨m,rfl,hr,hm,rfl⟩;go_wp2_with fail
 refine H2.out.mono ?_;rintro e w1 ⟨m',rfl,hr',hm',rfl⟩;clear H1 H2 hr0 hr0' hz hz';generalize val zs=a at *;generalize val zs'=b at *;have hl:=hr.len;have hl':=hr'.len;have hwx:=Ai a;have hwy:=Ai b;have hn1:m≤9223372036854775807:=by omega
 have hn1':m'≤9223372036854775807:=by omega
 clear hm hm' hnc hnc' hc hc';by_cases hne:m=m'
 ·have hne' : ((m : Int) != (m' : Int)) = false := by simp [hne]
  have HV:Hid (val (Ae a)=a):=An a;have HV':Hid (val (Ae b)=b):=An b;have HT:=Lib.hid (ET hwx hwy (by omega))
  have HT':=Lib.hid (ET hwy hwx (by omega))
  subst hne;generalize Ae a=xs at *;generalize Ae b=ys at *;have HL:=Lib.hid hl;have HL':=Lib.hid hl';clear hl hl' hwx hwy;go_wp2_with fail
  go_loopw [5] (fun i wr => ∃ k:Nat,k≤m∧i = .int .i64 ((k:Int) - 1)∧Hid (xs.drop k=ys.drop k) ∧ ∃ q,Hid (wr=w.drewN q)) (fun i _=>(intOf i+1).toNat)
  case atStart=>exact ⟨m,Nat.le_refl _,rfl,by unfold Hid;rw[List.drop_of_length_le (by rw[HL.out];omega),List.drop_of_length_le (by rw[HL'.out];omega)],0,rfl⟩
  case round =>
   obtain ⟨k,hk,rfl,HE,q,hw⟩:=hrel;have hw':=hw.out;subst hw';clear hw;by_cases h0:0 < k
   ·obtain ⟨k,rfl⟩ : ∃ j,k=j+1:=⟨k - 1,by omega⟩
    obtain ⟨b1,o1,rfl,_,hc1⟩:=hr.at_ (j:=k) (by omega)
    obtain ⟨b2,o2,rfl,_,hc2⟩:=hr'.at_ (j:=k) (by omega)
    have hk1:k < m:=by omega
    have hkk:((k+1:Nat):Int) - 1=(k:Int):=by omega
    rw[hkk];have HT1:=Lib.hid (HT.out k (by rw[HL.out];omega) HE.out)
    have HT2:=Lib.hid (HT'.out k (by rw[HL'.out];omega) HE.out.symm)
    have HXY:Hid (xs.getD k 0=ys.getD k 0→xs.drop k=ys.drop k):=by
     intro e;rw[BJ xs k (by rw[HL.out];omega),BJ ys k (by rw[HL'.out];omega),HE.out,e]
    generalize xs.getD k 0=x at *;generalize ys.getD k 0=y at *;have i1:(0:Int)≤(k:Int):=by omega
    have i2:(k:Int) < (m:Int):=by omega
    by_cases e:x=y
    ·have eb:decide ((x:Int) < (y:Int))=false:=by simp;omega
     have ec:decide ((y:Int) < (x:Int))=false:=by simp;omega
     have eb':decide (x < y)=false:=by simp;omega
     have ec':decide (y < x)=false:=by simp;omega
     have HE2:=Lib.hid (HXY.out e);clear e hkk;go_wp2
     go_quiet (fail)
     go_wp2
     go_quiet (fail)
     go_wp2
     go_roundw
     case rel=>exact ⟨k,by omega,rfl,HE2,_,rfl⟩
     case measure=>simp[intOf] <;> omega
    ·by_cases hlt:x < y
     ·have fin:BT a b = -1:=by unfold BT;rw[if_pos (by have:=HT1.out hlt;rw[HV.out,HV'.out] at this;exact this)]
      have HF:=Lib.hid fin;have hlt':decide ((x:Int) < (y:Int))=true:=by simp;omega
      have hlt2:decide (x < y)=true:=by simp;omega
      clear fin hkk;go_wp2
      go_quiet (fail)
      go_wp2
      go_ret
      exact AcL (by rw[HF.out];rfl)
     ·have fin:BT a b=1:=by
       have:=HT2.out (by omega)
       rw[HV.out,HV'.out] at this;unfold BT;rw[if_neg (by omega),if_neg (by omega)]
      have HF:=Lib.hid fin;have hlt':decide ((x:Int) < (y:Int))=false:=by simp;omega
      have hlt2:decide (x < y)=false:=by simp;omega
      have hlt3:decide ((y:Int) < (x:Int))=true:=by simp;omega
      have hlt4:decide (y < x)=true:=by simp;omega
      clear fin hkk;go_wp2
      go_quiet (fail)
      go_wp2
      go_quiet (fail)
      go_wp2
      go_ret
      exact Xh (by rw[HF.out];rfl)
   ·obtain rfl:k=0:=by omega
    have fin:BT a b=0:=by
     have h:=HE.out;rw[List.drop_zero,List.drop_zero] at h;have:a=b:=by rw[←HV.out,←HV'.out,h]
     unfold BT;rw[if_neg (by omega),if_pos this]
    have HF:=Lib.hid fin;clear fin;go_wp2
    go_ret
    exact ⟨by rw[HF.out];rfl,_,rfl⟩
 ·have hne':((m:Int) != (m':Int))=true:=by simp;omega
  by_cases hlt:m < m'
  ·have fin:BT a b = -1:=by unfold BT;rw[if_pos (JZ (by omega))]
   have HF:=Lib.hid fin;clear fin;go_wp2
   go_ret
   exact ⟨by rw[HF.out];rfl,0,rfl⟩
  ·have fin:BT a b=1:=by
    have:=JZ (a:=b) (b:=a) (by omega)
    unfold BT;rw[if_neg (by omega),if_neg (by omega)]
   have HF:=Lib.hid fin;clear fin;go_wp2
   go_ret
   exact ⟨by rw[HF.out];rfl,0,rfl⟩
def RetMagN (w:World)(m:Nat)(e:Ending)(w':World):Prop :=
 ∃ A n c,e = .returned (.slice A n c)∧Rd .u32 w' w'.heap.size A n (Ae m)∧n≤c∧c≤9223372036854775807∧Below w.heap.size w w'∧A=some ⟨w.heap.size,0,none⟩
theorem RetMagN.old {w:World}{m:Nat}{e:Ending}{w':World}(h:RetMagN w m e w'):RetMag w m e w':=by
 obtain ⟨A,n,c,h1,h2,h3,h4,h5,_⟩:=h;exact ⟨A,n,c,h1,h2,h3,h4,h5⟩
theorem Jw {g N c:Nat}{zs:List Nat}{w wr:World}{v:Nat}(hB:Buf .u32 97 wr g zs)(hl:zs.length=N)(hw:W32 zs)(hv:val zs=v)(hb:Below w.heap.size w wr)(hN:N≤c)(hc:c≤9223372036854775807)(hg:w.heap.size=g) :
  Calls Tryz.prog 136 #[.slice (some ⟨g,0,none⟩) N c] wr (fun e w'=>RetMagN w v e w'∧w'=wr):=by
 have hrd:=hB.rd;rw[hl] at hrd;refine (BX (c:=c) wr hrd hw hN hc).mono ?_;rintro e w1 ⟨m,rfl,r1,hm,rfl⟩;rw[hv] at r1;exact ⟨⟨_,m,c,rfl,r1,by omega,hc,hb,by rw[hg]⟩,rfl⟩
set_option maxRecDepth 100000 in
theorem Nu {A A' : Option Addr} {n n' c c' : Nat} {xs ys : List Nat} (w : World) (hr : Rd .u32 w w.heap.size A n xs) (hr' : Rd .u32 w w.heap.size A' n' ys) (hx : W32 xs) (hy : W32 ys) (hn : n ≤ 1099511627776) (hn' : n' ≤ 1099511627776) :
  Calls Tryz.prog 216 #[.slice A n c,.slice A' n' c'] w (RetMagN w (val xs+val ys)):=by
 have HL:=Lib.hid hr.len;have HL':=Lib.hid hr'.len;have HX:=Lib.hid hx;have HY:=Lib.hid hy;clear hx hy;obtain ⟨N,hN,hN1,hN2,hN3⟩ : ∃ N:Nat,(max (n:Int) (n':Int)+1=(N:Int))∧n+1≤N∧n'+1≤N∧N≤1099511627777:=⟨max n n'+1,by omega,by omega,by omega,by omega⟩
 have HNE:=Lib.hid hN;go_enter Tryz.func216,Tryz.ntmps216
 go_wp2_with (at_make;refine AV (kx := .i64) (ky := .i64) (n:=N) (c:=N) Tryz.elemU32 Tryz.underlying22 rfl rfl (congrArg (Value.int .i64) (by first | rfl | omega)) (congrArg (Value.int .i64) (by first | rfl | omega)) (Nat.le_refl _) (by omega) (by omega) ?_)
 all_goals
  intro w1 B1 b1 l1;rw[←D1] at B1;generalize hg:w.heap.size=g at *;have HG:=Lib.hid hg;clear hg;have r1:=hr.below b1;have r1':=hr'.below b1;clear hr hr' l1;first | rw[show ((n':Int)+1)=(N:Int) by omega] | rw[show ((n:Int)+1)=(N:Int) by omega]
  clear hN;go_wp2_with fail
  go_loopw [7,8] (fun cv i wr => ∃ (k cr:Nat) (ds:List Nat),k≤N∧i = .int .i64 k∧cv = .int .u64 cr∧cr≤1∧Hid (ds.length=k)∧Hid (W32 ds)∧Hid (val ds+4294967296 ^ k*cr=val (xs.take k)+val (ys.take k))∧Buf .u32 97 wr g (fill ds N)∧Rd .u32 wr g A n xs∧Rd .u32 wr g A' n' ys∧Below g w wr) (fun _ i _=>N - (intOf i).toNat)
  case atStart=>exact ⟨0,0,[],by omega,rfl,rfl,by omega,rfl,W32.nil,rfl,B1,r1,r1',b1⟩
  case round =>
   obtain ⟨k,cr,ds,hk,rfl,rfl,hcr,hdl,hdw,HV,hB,q,q',hb⟩:=hrel;clear B1 r1 r1' b1;by_cases hlt:k < N
   ·have hxl:=HX.out.getD k
    have hyl:=HY.out.getD k;have H1:=Lib.hid (Er (c:=c) (i:=k) wr q HX.out (by omega))
    have H2:=Lib.hid (Er (c:=c') (i:=k) wr q' HY.out (by omega))
    have hc:wr.cell? ⟨g,k,none⟩=some (.int .u32 (((fill ds N).getD k 0:Nat):Int)):=hB.cell (by rw[CB (by rw[hdl.out];omega)];omega)
    have hf:=hB.frozen k;have HVS:=Lib.hid (Kk (x:=xs.getD k 0) (y:=ys.getD k 0) HV.out);rw[←Av,←Av,←Nat.pow_succ] at HVS;have HSET:=Lib.hid (fun d=>CA d hlt hdl.out)
    have HLEN:Hid (∀ d,(ds++[d]).length=k+1):=fun d=>by rw[List.length_append,hdl.out];rfl
    have HVAL:Hid (∀ d,val (ds++[d])=val ds+4294967296 ^ k*d):=fun d=>by rw[BO,hdl.out]
    generalize xs.getD k 0=x at *;generalize ys.getD k 0=y at *;generalize (fill ds N).getD k 0=old at *;have i1:(0:Int)≤(k:Int):=by omega
    have i2:(k:Int) < (N:Int):=by omega
    go_wp2_with fail
    refine H1.out.mono ?_;rintro e w2 ⟨rfl,rfl⟩;go_wp2_with fail
    refine H2.out.mono ?_;rintro e w2 ⟨rfl,rfl⟩;go_wp2
    go_roundw
    case rel =>
     refine ⟨k+1,(cr+x+y) / 4294967296,ds++[(cr+x+y) % 4294967296],by omega,by go_num,by go_num,by omega,HLEN.out _,hdw.out.append (W32.mk (by omega) W32.nil),?_,?_,q.setCell (Nat.le_refl _) _,q'.setCell (Nat.le_refl _) _,hb.setCell (Nat.le_refl _) _⟩
     ·unfold Hid;rw[HVAL.out];exact HVS.out
     ·rw[←HSET.out];exact hB.setZ k (by omega)
    case measure=>simp[intOf] <;> omega
   ·obtain rfl:k=N:=by omega
    rw[CV hdl.out] at hB;have hv:val ds=val xs+val ys:=by
     have h:=HV.out;rw[List.take_of_length_le (by rw[HL.out];omega),List.take_of_length_le (by rw[HL'.out];omega)] at h
     have h1:=BP HX.out;have h2:=BP HY.out;have h3:4294967296 ^ xs.length≤4294967296 ^ (k - 1):=Nat.pow_le_pow_right (by omega) (by rw[HL.out];omega)
     have h4:4294967296 ^ ys.length≤4294967296 ^ (k - 1):=Nat.pow_le_pow_right (by omega) (by rw[HL'.out];omega)
     have h5:4294967296 ^ k=4294967296 ^ (k - 1)*4294967296:=by rw[←Nat.pow_succ];congr 1;omega
     generalize 4294967296 ^ (k - 1)=P at *;rcases Nat.eq_zero_or_pos cr with h0 | h0
     ·rw[h0,Nat.mul_zero] at h;omega
     ·exfalso
      obtain rfl:cr=1:=by omega
      rw[h5] at h;omega
    have HT:=Lib.hid (Jw (w:=w) (c:=k) hB hdl.out hdw.out hv (by rw[HG.out];exact hb) (Nat.le_refl _) (by omega) HG.out)
    clear hv;go_wp2_with fail
    refine HT.out.mono ?_;rintro e w3 ⟨⟨A1,n1,c1,rfl,h1⟩,rfl⟩;have H1:=Lib.hid h1;clear h1;clear HT;go_wp2
    go_ret
    exact ⟨A1,n1,c1,rfl,H1.out⟩
theorem UQ (x y br:Nat)(hx:x < 4294967296)(hy:y < 4294967296)(hbr:br≤1):(x+4294967296 - y - br) / 4294967296≤1∧1 - (x+4294967296 - y - br) / 4294967296=(if x < br+y then 1 else 0)∧(x+4294967296 - y - br)=(x+4294967296 - br - y):=by
 split <;> omega
set_option maxRecDepth 100000 in
theorem Hk {A A' : Option Addr} {n n' c c' : Nat} {xs ys : List Nat} (w : World) (hr : Rd .u32 w w.heap.size A n xs) (hr' : Rd .u32 w w.heap.size A' n' ys) (hx : W32 xs) (hy : W32 ys) (hn : n ≤ 1099511627776) (hnn : n' ≤ n) (hle : val ys ≤ val xs) :
  Calls Tryz.prog 214 #[.slice A n c,.slice A' n' c'] w (RetMagN w (val xs - val ys)):=by
 have HL:=Lib.hid hr.len;have HL':=Lib.hid hr'.len;have HX:=Lib.hid hx;have HY:=Lib.hid hy;have HLE:=Lib.hid hle;clear hx hy hle;go_enter Tryz.func214,Tryz.ntmps214
 go_wp2_with (at_make;refine AV (kx := .i64) (ky := .i64) (n:=n) (c:=n) Tryz.elemU32 Tryz.underlying22 rfl rfl rfl rfl (Nat.le_refl _) (by omega) (by omega) ?_)
 intro w1 B1 b1 l1;rw[←D1] at B1;generalize hg:w.heap.size=g at *;have HG:=Lib.hid hg;clear hg;have r1:=hr.below b1;have r1':=hr'.below b1;clear hr hr' l1;go_wp2_with fail
 go_loopw [6,7,8] (fun cv i _ wr => ∃ (k cr:Nat) (ds:List Nat),k≤n∧i = .int .i64 k∧cv = .int .u64 cr∧cr≤1∧Hid (ds.length=k)∧Hid (W32 ds)∧Hid (val (xs.take k)+4294967296 ^ k*cr=val ds+val (ys.take k))∧Buf .u32 97 wr g (fill ds n)∧Rd .u32 wr g A n xs∧Rd .u32 wr g A' n' ys∧Below g w wr) (fun _ i _ _=>n - (intOf i).toNat)
 case atStart=>exact ⟨0,0,[],by omega,rfl,rfl,by omega,rfl,W32.nil,rfl,B1,r1,r1',b1⟩
 case round =>
  obtain ⟨k,cr,ds,hk,rfl,rfl,hcr,hdl,hdw,HV,hB,q,q',hb⟩:=hrel;clear B1 r1 r1' b1;by_cases hlt:k < n
  ·have hxl:=HX.out.getD k
   have hyl:=HY.out.getD k;have H1:=Lib.hid (Er (c:=c) (i:=k) wr q HX.out (by omega))
   have H2:=Lib.hid (Er (c:=c') (i:=k) wr q' HY.out (by omega))
   have hc:wr.cell? ⟨g,k,none⟩=some (.int .u32 (((fill ds n).getD k 0:Nat):Int)):=hB.cell (by rw[CB (by rw[hdl.out];omega)];omega)
   have hf:=hB.frozen k;have HVS:=Lib.hid (LW (x:=xs.getD k 0) (y:=ys.getD k 0) HV.out hxl hyl hcr);rw[←Av,←Av,←Nat.pow_succ] at HVS;have HSET:=Lib.hid (fun d=>CA d hlt hdl.out)
   have HLEN:Hid (∀ d,(ds++[d]).length=k+1):=fun d=>by rw[List.length_append,hdl.out];rfl
   have HVAL:Hid (∀ d,val (ds++[d])=val ds+4294967296 ^ k*d):=fun d=>by rw[BO,hdl.out]
   generalize xs.getD k 0=x at *;generalize ys.getD k 0=y at *;generalize (fill ds n).getD k 0=old at *;obtain ⟨e1,e2,e3⟩:=UQ x y cr hxl hyl hcr;have E2:=Lib.hid e2;have E3:=Lib.hid e3;clear e2 e3;have i1:(0:Int)≤(k:Int):=by omega
   have i2:(k:Int) < (n:Int):=by omega
   go_wp2_with fail
   refine H1.out.mono ?_;rintro e w2 ⟨rfl,rfl⟩;go_wp2_with fail
   refine H2.out.mono ?_;rintro e w2 ⟨rfl,rfl⟩;go_wp2
   go_roundw
   case rel =>
    refine ⟨k+1,(if x < cr+y then 1 else 0),ds++[(x+4294967296 - cr - y) % 4294967296],by omega,by go_num,?_,by split <;> omega,HLEN.out _,hdw.out.append (W32.mk (by omega) W32.nil),?_,?_,q.setCell (Nat.le_refl _) _,q'.setCell (Nat.le_refl _) _,hb.setCell (Nat.le_refl _) _⟩
    ·rw[←E2.out];congr 1;omega
    ·unfold Hid;rw[HVAL.out];exact HVS.out
    ·rw[←HSET.out];exact hB.setZ k (by rw[←E3.out];omega)
   case measure=>simp[intOf] <;> omega
  ·obtain rfl:k=n:=by omega
   rw[CV hdl.out] at hB;have hv:val ds=val xs - val ys:=by
    have h:=HV.out;rw[List.take_of_length_le (by rw[HL.out];omega),List.take_of_length_le (by rw[HL'.out];omega)] at h
    have hl:=BP hdw.out;rw[hdl.out] at hl;have h2:=HLE.out;have hc0:cr=0:=by
     rcases Nat.eq_zero_or_pos cr with h0 | h0
     ·exact h0
     ·exfalso
      obtain rfl:cr=1:=by omega
      rw[Nat.mul_one] at h;omega
    subst hc0;rw[Nat.mul_zero] at h;omega
   have HT:=Lib.hid (Jw (w:=w) (c:=k) hB hdl.out hdw.out hv (by rw[HG.out];exact hb) (Nat.le_refl _) (by omega) HG.out)
   clear hv;go_wp2_with fail
   refine HT.out.mono ?_;rintro e w3 ⟨⟨A1,n1,c1,rfl,h1⟩,rfl⟩;have H1:=Lib.hid h1;clear h1;clear HT;go_wp2
   go_ret
   exact ⟨A1,n1,c1,rfl,H1.out⟩
theorem Nv {A A':Option Addr}{n n' c c':Nat}{xs ys:List Nat}(w:World)(hr:Rd .u32 w w.heap.size A n xs)(hr':Rd .u32 w w.heap.size A' n' ys)(hx:W32 xs)(hy:W32 ys)(hn:n≤1099511627776)(hn':n'≤1099511627776) :
  Calls Tryz.prog 216 #[.slice A n c,.slice A' n' c'] w (RetMag w (val xs+val ys)):=(Nu w hr hr' hx hy hn hn').mono fun _ _ h=>h.old
theorem Ng {A A':Option Addr}{n n' c c':Nat}{xs ys:List Nat}(w:World)(hr:Rd .u32 w w.heap.size A n xs)(hr':Rd .u32 w w.heap.size A' n' ys)(hx:W32 xs)(hy:W32 ys)(hn:n≤1099511627776)(hnn:n'≤n)(hle:val ys≤val xs) :
  Calls Tryz.prog 214 #[.slice A n c,.slice A' n' c'] w (RetMag w (val xs - val ys)):=(Hk w hr hr' hx hy hn hnn hle).mono fun _ _ h=>h.old
end Go.Proofs.YtdgbealknnmkoaaGreatDoor
