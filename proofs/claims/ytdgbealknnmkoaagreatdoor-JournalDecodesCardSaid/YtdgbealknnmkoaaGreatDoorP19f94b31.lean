/- Texts of one proof, put together by a program: each lemma is proved for all values of its variables, under the premises that it states. -/
import Derived.IntWalk
import Derived.Test.YtdgbealknnmkoaaGreatDoorP1c869761
set_option linter.unusedVariables false
set_option linter.unusedSimpArgs false
namespace Go.Proofs.YtdgbealknnmkoaaGreatDoor
open Go.RowKit
theorem PH {B:Nat}(w:World)(n:Nat):Below B w (w.drewN n):=⟨rfl,rfl,rfl,Nat.le_refl _,fun _ _=>rfl⟩
theorem Su {d f z cr:Nat}(hd:d < 4294967296)(hf:f < 4294967296)(hz:z < 4294967296)(hcr:cr < 4294967296) : ∃ p s1 s2:Nat,IntKind.u64.wrap ((d:Int)*(f:Int))=(p:Int)∧IntKind.u64.wrap ((cr:Int)+(z:Int))=(s1:Int)∧IntKind.u64.wrap ((s1:Int)+(p:Int))=(s2:Int) ∧
  s2=cr+d*f+z∧s2 / 4294967296 < 4294967296∧s2 % 4294967296 < 4294967296:=by
 have hb:=Ep hd hf;have e:((d*f:Nat):Int)=(d:Int)*(f:Int):=by simp
 refine ⟨d*f,cr+z,cr+z+d*f,?_,?_,?_,by omega,by omega,by omega⟩
 ·rw[←e,IntKind.wrap_u64];omega
 ·rw[IntKind.wrap_u64];omega
 ·rw[IntKind.wrap_u64];omega
set_option maxHeartbeats 1000000 in
set_option maxRecDepth 100000 in
theorem Nk {A A' : Option Addr} {n n' c c' : Nat} {xs ys : List Nat} (w : World) (hr : Rd .u32 w w.heap.size A n xs) (hr' : Rd .u32 w w.heap.size A' n' ys) (hx : W32 xs) (hy : W32 ys) (hn : n ≤ 1099511627776) (hn' : n' ≤ 1099511627776) :
  Calls Tryz.prog 154 #[.slice A n c,.slice A' n' c'] w (RetMagN w (val xs*val ys)):=by
 have HL:=Lib.hid hr.len;have HL':=Lib.hid hr'.len;have HX:=Lib.hid hx;have HY:=Lib.hid hy;clear hx hy;go_enter Tryz.func154,Tryz.ntmps154
 go_wp2_with (at_make;refine AV (kx := .i64) (ky := .i64) (n:=n+n') (c:=n+n') Tryz.elemU32 Tryz.underlying22 rfl rfl (congrArg (Value.int .i64) (by omega)) (congrArg (Value.int .i64) (by omega)) (Nat.le_refl _) (by omega) (by omega) ?_)
 intro w1 B1 b1 l1;generalize hg:w.heap.size=g at *;have HG:=Lib.hid hg;clear hg;have r1:=hr.below b1;have r1':=hr'.below b1;clear hr hr' l1;go_wp2_with fail
 go_loopw [6,7,8] (fun i _ _ wr => ∃ (k:Nat) (zs:List Nat),k≤n∧i = .int .i64 k∧Hid (zs.length=n+n')∧Hid (W32 zs)∧Hid (val zs=val (xs.take k)*val ys)∧Hid (∀ j,k+n'≤j→zs.getD j 0=0)∧Buf .u32 97 wr g zs∧Rd .u32 wr g A n xs∧Rd .u32 wr g A' n' ys∧Below g w wr) (fun i _ _ _=>n - (intOf i).toNat)
 case atStart=>exact ⟨0,_,by omega,rfl,by simp[Hid],W32.rep _,by rw[Jt,List.take_zero];simp[val,Hid],fun j _=>by rw[List.getD_eq_getElem?_getD];simp only[List.getElem?_replicate];split <;> rfl,B1,r1,r1',b1⟩
 case round =>
  obtain ⟨k,zs,hk,rfl,hzl,hzw,HV,HZ,hB,q,q',hb⟩:=hrel;clear B1 r1 r1' b1;by_cases hlt:k < n
  ·obtain ⟨b1, o1, rfl, hb1, hc1⟩ := q.at_ hlt
   have hdl:=HX.out.getD k;have HTS:=Lib.hid (Av xs k);have HXD:Hid (xs.getD k 0=xs.getD k 0):=rfl;obtain ⟨d,hd⟩ : ∃ d,d=xs.getD k 0:=⟨_,rfl⟩;rw[←hd] at hdl HTS;have HD:=Lib.hid hd;clear hc1 hd HXD;obtain ⟨wo,rfl⟩ : ∃ wo:World,wo=wr:=⟨_,rfl⟩;go_wp2_with fail
   go_loopw [7,8] (fun cv i wr => ∃ (j cr:Nat) (us:List Nat),j≤n'∧i = .int .i64 j∧cv = .int .u64 cr∧cr < 4294967296∧Hid (us.length=n+n')∧Hid (W32 us)∧Hid (val us+4294967296 ^ (k+j)*cr=val zs+4294967296 ^ k*(d*val (ys.take j)))∧Hid (∀ i,k+n'≤i→us.getD i 0=0)∧Buf .u32 97 wr g us∧Rd .u32 wr g (some ⟨b1,o1,none⟩) n xs∧Rd .u32 wr g A' n' ys∧Below g w wr) (fun _ i _=>n' - (intOf i).toNat)
   case atStart=>exact ⟨0,0,zs,by omega,rfl,rfl,by omega,hzl,hzw,by simp[val,Hid],HZ,hB,q,q',hb⟩
   case round =>
    obtain ⟨j,cr,us,hj,rfl,rfl,hcr,hul,huw,HU,HZU,hBu,p,p',hbu⟩:=hrel;clear hB q q' hb;by_cases hltj:j < n'
    ·obtain ⟨b2,o2,rfl,hb2,hc2⟩:=p'.at_ hltj
     obtain ⟨b1',o1',e0,_,hc1⟩:=p.at_ hlt;injection e0 with e0;injection e0 with e01 e02;subst e01 e02;have hfl:=HY.out.getD j;have hc:=hBu.cell (i:=k+j) (by rw[hul.out];omega)
     have hf:=hBu.frozen (k+j);have hol:=huw.out.getD (k+j);have HTJ:=Lib.hid (Av ys j);rw[←HD.out] at hc1;obtain ⟨pp,s1,s2,e1,e2,e3,es,hsq,hsm⟩:=Su hdl hfl hol hcr;have HVS:=Lib.hid (Mz HU.out (Nat.pow_add 4294967296 k j) s2 es);have HSV:=Lib.hid (DJ us (k+j) (s2 % 4294967296) (by rw[hul.out];omega))
     rw[←HTJ.out] at HVS;generalize ys.getD j 0=f at *;generalize us.getD (k+j) 0=z at *;have HF:Hid (val (us.set (k+j) (s2 % 4294967296))+4294967296 ^ (k+(j+1))*(s2 / 4294967296)=val zs+4294967296 ^ k*(d*val (ys.take (j+1)))):=by
      have h1:=HVS.out;have h2:=HSV.out;have h3:4294967296 ^ (k+(j+1))=4294967296 ^ (k+j)*4294967296:=by rw[←Nat.add_assoc,Nat.pow_succ]
      unfold Hid;rw[h3];generalize 4294967296 ^ (k+j)=P at *;omega
     have hs2:s2 < 18446744073709551616:=by omega
     clear es;have i1:(0:Int)≤(k:Int)+(j:Int):=by omega
     have i2:(k:Int)+(j:Int) < ((n+n':Nat):Int):=by omega
     have i3:((k:Int)+(j:Int)).toNat=k+j:=by omega
     have i4:(0:Int)≤(k:Int):=by omega
     have i5:(k:Int) < (n:Int):=by omega
     have i6:(0:Int)≤(j:Int):=by omega
     have i7:(j:Int) < (n':Int):=by omega
     have iw:IntKind.i64.wrap ((k:Int)+(j:Int))=(k:Int)+(j:Int):=IntWalk.i64_in _ (by omega)
     go_wp2_with fail
     go_quiet (fail)
     clear iw e1 e2 e3 i3;have hc':=hc;have hBq:=hBu.drewN nq;have pq:=p.drewN nq;have pq':=p'.drewN nq;have hbq:=hbu.trans (PH (B:=g) wr nq);go_wp2
     go_roundw
     case rel =>
      refine ⟨j+1,s2 / 4294967296,us.set (k+j) (s2 % 4294967296),by omega,by go_num,by go_num,hsq,?_,huw.out.set _ hsm,HF,?_,?_,pq.setCell (Nat.le_refl _) _,pq'.setCell (Nat.le_refl _) _,hbq.setCell (Nat.le_refl _) _⟩
      ·unfold Hid;rw[List.length_set];exact hul.out
      ·intro i hi
       rw[List.getD_eq_getElem?_getD,List.getElem?_set_ne (by omega),←List.getD_eq_getElem?_getD]
       exact HZU.out i hi
      ·exact hBq.setZ _ (by omega)
     case measure=>simp[intOf] <;> omega
    ·obtain rfl:j=n':=by omega
     have hc:=hBu.cell (i:=k+j) (by rw[hul.out];omega)
     have hf:=hBu.frozen (k+j);have HSV:=Lib.hid (DJ us (k+j) cr (by rw[hul.out];omega))
     rw[HZU.out (k+j) (by omega)] at HSV
     have HF:Hid (val (us.set (k+j) cr)=val (xs.take (k+1))*val ys):=by
      have h1:=HU.out;have h2:=HSV.out;rw[Nat.mul_zero,Nat.add_zero] at h2;unfold Hid;rw[h2,h1,List.take_of_length_le (by rw[HL'.out];omega),HV.out,HTS.out,Nat.add_mul,Nat.mul_assoc]
     generalize us.getD (k+j) 0=z at *;go_wp2
     go_roundw
     case rel =>
      refine ⟨k+1,us.set (k+j) cr,by omega,by go_num,?_,huw.out.set _ hcr,HF,?_,hBu.setZ _ (by omega),p.setCell (Nat.le_refl _) _,p'.setCell (Nat.le_refl _) _,hbu.setCell (Nat.le_refl _) _⟩
      ·unfold Hid;rw[List.length_set];exact hul.out
      ·intro i hi
       rw[List.getD_eq_getElem?_getD,List.getElem?_set_ne (by omega),←List.getD_eq_getElem?_getD]
       exact HZU.out i (by omega)
     case measure=>simp[intOf] <;> omega
  ·obtain rfl:k=n:=by omega
   have hv:val zs=val xs*val ys:=by rw[HV.out,List.take_of_length_le (by rw[HL.out];omega)]
   have HT:=Lib.hid (Jw (w:=w) (c:=k+n') hB hzl.out hzw.out hv (by rw[HG.out];exact hb) (Nat.le_refl _) (by omega) HG.out)
   clear hv;go_wp2_with fail
   refine HT.out.mono ?_;rintro e w3 ⟨⟨A1,n1,c1,rfl,h1⟩,rfl⟩;have H1:=Lib.hid h1;clear h1;clear HT;go_wp2
   go_ret
   exact ⟨A1,n1,c1,rfl,H1.out⟩
theorem Nl {A A':Option Addr}{n n' c c':Nat}{xs ys:List Nat}(w:World)(hr:Rd .u32 w w.heap.size A n xs)(hr':Rd .u32 w w.heap.size A' n' ys)(hx:W32 xs)(hy:W32 ys)(hn:n≤1099511627776)(hn':n'≤1099511627776) :
  Calls Tryz.prog 154 #[.slice A n c,.slice A' n' c'] w (RetMag w (val xs*val ys)):=(Nk w hr hr' hx hy hn hn').mono fun _ _ h=>h.old
end Go.Proofs.YtdgbealknnmkoaaGreatDoor
